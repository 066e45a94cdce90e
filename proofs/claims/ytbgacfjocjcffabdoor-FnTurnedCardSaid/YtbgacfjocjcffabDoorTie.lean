/-
  DERIVED. GIVEN WITH THE SEED: THE PROGRAM's TIES (one call each: nine closed facts by the kernel) AND EACH ROW's TIE, after the 31st guide's Derived/Test/Toyas{Tie, Card}.lean. No idea stands in it: it is a product of the set-up. Laid BY PROGRAM, IN A SANDBOX (cutbox-door.mjs). By AI agents, Wed Nov 11 2026. No macro, syntax, notation, axiom, sorry.
-/
import Derived.Test.YtbgacfjocjcffabDoorRows
import Derived.LaidByTextLater
import Derived.SevenTiedAt
import Derived.LaidSub
import Derived.LaidOnce
namespace Go.Proofs.YtbgacfjocjcffabDoor
open Go
set_option maxRecDepth 100000
theorem seatTie1 : Tryd.prog.laidByTextLater [("loop.example/g00051/impl.units", Rows.laid_loop_example_g00051_impl_units), ("loop.example/g00051/impl.sines", Rows.laid_loop_example_g00051_impl_sines), ("loop.example/g00051/impl.forces", Rows.laid_loop_example_g00051_impl_forces)] [.data, .data, .data] true :=
  Program.laidByTextLater_by_one 39 8 46 (by kernel_rfl) (by kernel_rfl) (by kernel_rfl) (by kernel_rfl) (by kernel_rfl) (by kernel_rfl) (fun _ _ => by kernel_rfl)
theorem noOwnUnsafe : Tryd.pinned.checked.prog.headLifts.contains "ownunsafe" = false := by kernel_rfl
theorem tie : Tryd.prog.laidByTextLater [("loop.example/g00051/impl.forces", Rows.laid_loop_example_g00051_impl_forces)] [.data] true :=
  Program.laidByTextLater.sub seatTie1 ["loop.example/g00051/impl.forces"] (by kernel_rfl) (by kernel_rfl)
theorem fnExactBeaufort_row_tie : Rows.fnExactBeaufortRow.laidByTextAt .later Tryd.pinned [.data] true :=
  OpenClaim.laidByTextAt_later rfl rfl tie noOwnUnsafe
theorem tie2 : Tryd.prog.laidByTextLater [("loop.example/g00051/impl.sines", Rows.laid_loop_example_g00051_impl_sines)] [.data] true :=
  Program.laidByTextLater.sub seatTie1 ["loop.example/g00051/impl.sines"] (by kernel_rfl) (by kernel_rfl)
theorem fnExactWindPair_row_tie : Rows.fnExactWindPairRow.laidByTextAt .later Tryd.pinned [.data] true :=
  OpenClaim.laidByTextAt_later rfl rfl tie2 noOwnUnsafe
theorem fnExactTurn_row_tie : Rows.fnExactTurnRow.laidByTextAt .later Tryd.pinned [.data] true :=
  OpenClaim.laidByTextAt_later rfl rfl tie2 noOwnUnsafe
theorem fnExactAnalyse_row_tie : Rows.fnExactAnalyseRow.laidByTextAt .later Tryd.pinned [.data] true :=
  OpenClaim.laidByTextAt_later rfl rfl tie2 noOwnUnsafe
theorem fnTurned_row_tie : Rows.fnTurnedRow.laidByTextAt .later Tryd.pinned [.data] true :=
  OpenClaim.laidByTextAt_later rfl rfl tie2 noOwnUnsafe
theorem tie3 : Tryd.prog.laidByTextLater [("loop.example/g00051/impl.units", Rows.laid_loop_example_g00051_impl_units)] [.data] true :=
  Program.laidByTextLater.sub seatTie1 ["loop.example/g00051/impl.units"] (by kernel_rfl) (by kernel_rfl)
theorem fnExactConvert_row_tie : Rows.fnExactConvertRow.laidByTextAt .later Tryd.pinned [.data] true :=
  OpenClaim.laidByTextAt_later rfl rfl tie3 noOwnUnsafe
theorem fnExactBeaufortUpto_row_tie : Rows.fnExactBeaufortUptoRow.laidByTextAt .later Tryd.pinned [.data] true :=
  OpenClaim.laidByTextAt_later rfl rfl tie noOwnUnsafe
theorem fnExactWindPairUpto_row_tie : Rows.fnExactWindPairUptoRow.laidByTextAt .later Tryd.pinned [.data] true :=
  OpenClaim.laidByTextAt_later rfl rfl tie2 noOwnUnsafe
theorem fnExactTurnUpto_row_tie : Rows.fnExactTurnUptoRow.laidByTextAt .later Tryd.pinned [.data] true :=
  OpenClaim.laidByTextAt_later rfl rfl tie2 noOwnUnsafe
theorem fnExactAnalyseUpto_row_tie : Rows.fnExactAnalyseUptoRow.laidByTextAt .later Tryd.pinned [.data] true :=
  OpenClaim.laidByTextAt_later rfl rfl tie2 noOwnUnsafe
theorem fnExactConvertUpto_row_tie : Rows.fnExactConvertUptoRow.laidByTextAt .later Tryd.pinned [.data] true :=
  OpenClaim.laidByTextAt_later rfl rfl tie3 noOwnUnsafe
theorem fnTurnedUpto_row_tie : Rows.fnTurnedUptoRow.laidByTextAt .later Tryd.pinned [.data] true :=
  OpenClaim.laidByTextAt_later rfl rfl tie2 noOwnUnsafe
end Go.Proofs.YtbgacfjocjcffabDoor
