/-
  DERIVED. GIVEN WITH THE SEED: THE PROGRAM's TIES (one call each: nine closed facts by the kernel) AND EACH ROW's TIE, after the 31st guide's Derived/Test/Toyas{Tie, Card}.lean. No idea stands in it: it is a product of the set-up. Laid BY PROGRAM, IN A SANDBOX (cutbox-door.mjs). By AI agents, Wed Nov 11 2026. No macro, syntax, notation, axiom, sorry.
-/
import Derived.Test.YtoghojneidpkkaaDoorRows
import Derived.LaidByTextLater
import Derived.SevenTiedAt
import Derived.LaidSub
import Derived.LaidOnce
namespace Go.Proofs.YtoghojneidpkkaaDoor
open Go
set_option maxRecDepth 100000
theorem seatTie1 : Tryd.prog.laidByTextLater [("loop.example/g00051/impl.weathers", Rows.laid_loop_example_g00051_impl_weathers), ("loop.example/g00051/impl.covers", Rows.laid_loop_example_g00051_impl_covers), ("loop.example/g00051/impl.forces", Rows.laid_loop_example_g00051_impl_forces)] [.widerDeep, .widerDeep, .data] true :=
  Program.laidByTextLater_by_one 24 8 14 (by kernel_rfl) (by kernel_rfl) (by kernel_rfl) (by kernel_rfl) (by kernel_rfl) (by kernel_rfl) (fun _ _ => by kernel_rfl)
theorem noOwnUnsafe : Tryd.pinned.checked.prog.headLifts.contains "ownunsafe" = false := by kernel_rfl
theorem tie : Tryd.prog.laidByTextLater [("loop.example/g00051/impl.weathers", Rows.laid_loop_example_g00051_impl_weathers), ("loop.example/g00051/impl.covers", Rows.laid_loop_example_g00051_impl_covers)] [.widerDeep, .widerDeep] true :=
  Program.laidByTextLater.sub seatTie1 ["loop.example/g00051/impl.weathers", "loop.example/g00051/impl.covers"] (by kernel_rfl) (by kernel_rfl)
theorem fnExactSkyOk_row_tie : Rows.fnExactSkyOkRow.laidByTextAt .later Tryd.pinned [.widerDeep, .widerDeep] true :=
  OpenClaim.laidByTextAt_later rfl rfl tie noOwnUnsafe
theorem tie2 : Tryd.prog.laidByTextLater [("loop.example/g00051/impl.forces", Rows.laid_loop_example_g00051_impl_forces)] [.data] true :=
  Program.laidByTextLater.sub seatTie1 ["loop.example/g00051/impl.forces"] (by kernel_rfl) (by kernel_rfl)
theorem fnExactBeaufort_row_tie : Rows.fnExactBeaufortRow.laidByTextAt .later Tryd.pinned [.data] true :=
  OpenClaim.laidByTextAt_later rfl rfl tie2 noOwnUnsafe
theorem fnExactSkyOkUpto_row_tie : Rows.fnExactSkyOkUptoRow.laidByTextAt .later Tryd.pinned [.widerDeep, .widerDeep] true :=
  OpenClaim.laidByTextAt_later rfl rfl tie noOwnUnsafe
theorem fnExactBeaufortUpto_row_tie : Rows.fnExactBeaufortUptoRow.laidByTextAt .later Tryd.pinned [.data] true :=
  OpenClaim.laidByTextAt_later rfl rfl tie2 noOwnUnsafe
end Go.Proofs.YtoghojneidpkkaaDoor
