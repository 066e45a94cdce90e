/-
  NARROWER THAN 'FOR EVERY INPUT', by the rows' own cells (each row's printed sentence says how): FnExactBeaufort: laid · FnExactWindPair: laid · FnExactTurn: laid · FnExactAnalyse: laid · FnExactConvert: laid · FnTurned: laid.
  DERIVED. THE GIVEN ROWS OF THIS SEAT. 6 by the template 'for every input the law returns true; each argument reads behind the call as it read before'; 0 by the template 'total and deterministic' (their statements: YtbgacfjocjcffabDoorTotals.lean).
  GIVEN WITH THE SEED: the statements are not yours to turn. If you find one false, say at which input.
  Laid BY PROGRAM, IN A SANDBOX (cutbox-rows.mjs): the forced cells as the released guide's own fill.sh prints them over the translation 1dab0ae7e5f53ccc… (all of the seat's roots in one cut). By AI agents, Wed Nov 11 2026. No macro, syntax, notation, axiom, sorry.
-/
import Derived.Test.YtbgacfjocjcffabDoorChecked
import GoSem.Claim
import GoSem.ClaimJoined
import GoSem.ClaimMapViews
import Derived.JoinedTies
import Derived.KernelRfl
namespace Go.Proofs.YtbgacfjocjcffabDoor
/- THE CELL 'sum', in the pinned program and in every row, IS THE sha256 OF THE DUMP (.gsa) THAT YtbgacfjocjcffabDoorProg.lean LOADS. Nothing in Lean hashes anything: it is a label: what it is worth is what the hold of that sum in a sandbox is worth. -/
noncomputable def Tryd.pinned : Pinned := { name := "ytbgacfjocjcffabdoor", sum := "1dab0ae7e5f53cccba7bde208feaff0364137b75d5d02520322fc60d0b127a6a", checked := Tryd.checked }
namespace Rows
def none {H : Type} : Left H := { results := [], args := [] }

/- WHAT THE LISTED PACKAGE-LEVEL VARIABLES READ AS WHEN THE CALL BEGINS. Each datum BY PROGRAM (the guide's laid-datum.mjs) off the statement by which the dump's own 'gosem.cut.vars' lays the variable. In a bare row this is a premise. The card (YtbgacfjocjcffabDoorCards.lean) ties it to the program's text. -/
def laid_loop_example_g00051_impl_forces {H : Type} : DataW H := .agg [.lit (.float .f64 0), .lit (.float .f64 4599075939470750515), .lit (.float .f64 4609884578576439706), .lit (.float .f64 4614838538166547251), .lit (.float .f64 4617878467915022336), .lit (.float .f64 4620693217682128896), .lit (.float .f64 4622269477551708570), .lit (.float .f64 4624014622407314637), .lit (.float .f64 4625534587281552179), .lit (.float .f64 4626547897197710541), .lit (.float .f64 4627589354611539968), .lit (.float .f64 4628715254518382592), .lit (.float .f64 4629798933178718618)]
def laid_loop_example_g00051_impl_sines {H : Type} : DataW H := .agg [.lit (.float .f64 0), .lit (.float .f64 4595424355236410249), .lit (.float .f64 4599832907078044661), .lit (.float .f64 4602678819172646912), .lit (.float .f64 4603964935624201756), .lit (.float .f64 4605075134482436153), .lit (.float .f64 4605975682916830378), .lit (.float .f64 4606639218218904859), .lit (.float .f64 4607045579204271127), .lit (.float .f64 4607182418800017408)]
def laid_loop_example_g00051_impl_units {H : Type} : DataW H := .agg [.agg [.lit (.int .i64 0), .lit (.float .f64 0), .lit (.float .f64 0)], .agg [.lit (.int .i64 1), .lit (.float .f64 0), .lit (.float .f64 4607182418800017408)], .agg [.lit (.int .i64 1), .lit (.float .f64 4643512921809643110), .lit (.float .f64 4607182418800017408)], .agg [.lit (.int .i64 1), .lit (.float .f64 4646794216350647583), .lit (.float .f64 4603179219131243634)], .agg [.lit (.int .i64 2), .lit (.float .f64 0), .lit (.float .f64 4607182418800017408)], .agg [.lit (.int .i64 2), .lit (.float .f64 0), .lit (.float .f64 4602808923161882060)], .agg [.lit (.int .i64 2), .lit (.float .f64 0), .lit (.float .f64 4598675619503873138)], .agg [.lit (.int .i64 3), .lit (.float .f64 0), .lit (.float .f64 4607182418800017408)], .agg [.lit (.int .i64 3), .lit (.float .f64 0), .lit (.float .f64 4629962737541415384)], .agg [.lit (.int .i64 3), .lit (.float .f64 0), .lit (.float .f64 4608683126282248314)], .agg [.lit (.int .i64 4), .lit (.float .f64 0), .lit (.float .f64 4607182418800017408)], .agg [.lit (.int .i64 4), .lit (.float .f64 0), .lit (.float .f64 4599162408583596029)], .agg [.lit (.int .i64 4), .lit (.float .f64 0), .lit (.float .f64 4655859997584916480)], .agg [.lit (.int .i64 5), .lit (.float .f64 0), .lit (.float .f64 4607182418800017408)], .agg [.lit (.int .i64 5), .lit (.float .f64 0), .lit (.float .f64 4627842682090579558)]]

/-- 'laws.FnExactBeaufort': WHATEVER THE INPUT: true; the input reads as it did. -/
def fnExactBeaufortSpec : ChangeSpec := { name := "fnExactBeaufort", vars := ["loop.example/g00051/impl.forces"], fn := fun _ => fun
  | [d, g1] => { results := [.lit (.bool true)], args := [d], vars := [g1] }
  | _ => none }
def fnExactBeaufortRow : OpenClaim := { program := "ytbgacfjocjcffabdoor", sum := "1dab0ae7e5f53cccba7bde208feaff0364137b75d5d02520322fc60d0b127a6a", func := "loop.example/g00051/laws.FnExactBeaufort", spec := "fnExactBeaufort", named := ["loop.example/g00051/impl.forces"], apart := false, laid := [("loop.example/g00051/impl.forces", laid_loop_example_g00051_impl_forces)] }
def FnExactBeaufortSaid : Prop := fnExactBeaufortRow.holds Tryd.pinned (OpenSpec.ofChange fnExactBeaufortSpec)

/-- ITS FALSE NEIGHBOUR: 'it returns false'. Refute it at one input. -/
def fnExactBeaufortWrong : ChangeSpec := { name := "fnExactBeaufort", vars := ["loop.example/g00051/impl.forces"], fn := fun _ => fun
  | [d, g1] => { results := [.lit (.bool false)], args := [d], vars := [g1] }
  | _ => none }
def FnExactBeaufortWrongFalsely : Prop := fnExactBeaufortRow.holds Tryd.pinned (OpenSpec.ofChange fnExactBeaufortWrong)

/-- 'laws.FnExactWindPair': WHATEVER THE INPUT: true; the input reads as it did. -/
def fnExactWindPairSpec : ChangeSpec := { name := "fnExactWindPair", vars := ["loop.example/g00051/impl.sines"], fn := fun _ => fun
  | [d, g1] => { results := [.lit (.bool true)], args := [d], vars := [g1] }
  | _ => none }
def fnExactWindPairRow : OpenClaim := { program := "ytbgacfjocjcffabdoor", sum := "1dab0ae7e5f53cccba7bde208feaff0364137b75d5d02520322fc60d0b127a6a", func := "loop.example/g00051/laws.FnExactWindPair", spec := "fnExactWindPair", inPlace := ["math.Float64bits", "math.Float64frombits"], named := ["loop.example/g00051/impl.sines"], apart := false, laid := [("loop.example/g00051/impl.sines", laid_loop_example_g00051_impl_sines)] }
def FnExactWindPairSaid : Prop := fnExactWindPairRow.holds Tryd.pinned (OpenSpec.ofChange fnExactWindPairSpec)

/-- ITS FALSE NEIGHBOUR: 'it returns false'. Refute it at one input. -/
def fnExactWindPairWrong : ChangeSpec := { name := "fnExactWindPair", vars := ["loop.example/g00051/impl.sines"], fn := fun _ => fun
  | [d, g1] => { results := [.lit (.bool false)], args := [d], vars := [g1] }
  | _ => none }
def FnExactWindPairWrongFalsely : Prop := fnExactWindPairRow.holds Tryd.pinned (OpenSpec.ofChange fnExactWindPairWrong)

/-- 'laws.FnExactTurn': WHATEVER THE INPUT: true; the input reads as it did. -/
def fnExactTurnSpec : ChangeSpec := { name := "fnExactTurn", vars := ["loop.example/g00051/impl.sines"], fn := fun _ => fun
  | [d, g1] => { results := [.lit (.bool true)], args := [d], vars := [g1] }
  | _ => none }
def fnExactTurnRow : OpenClaim := { program := "ytbgacfjocjcffabdoor", sum := "1dab0ae7e5f53cccba7bde208feaff0364137b75d5d02520322fc60d0b127a6a", func := "loop.example/g00051/laws.FnExactTurn", spec := "fnExactTurn", named := ["loop.example/g00051/impl.sines"], apart := false, laid := [("loop.example/g00051/impl.sines", laid_loop_example_g00051_impl_sines)] }
def FnExactTurnSaid : Prop := fnExactTurnRow.holds Tryd.pinned (OpenSpec.ofChange fnExactTurnSpec)

/-- ITS FALSE NEIGHBOUR: 'it returns false'. Refute it at one input. -/
def fnExactTurnWrong : ChangeSpec := { name := "fnExactTurn", vars := ["loop.example/g00051/impl.sines"], fn := fun _ => fun
  | [d, g1] => { results := [.lit (.bool false)], args := [d], vars := [g1] }
  | _ => none }
def FnExactTurnWrongFalsely : Prop := fnExactTurnRow.holds Tryd.pinned (OpenSpec.ofChange fnExactTurnWrong)

/-- 'laws.FnExactAnalyse': WHATEVER THE INPUT: true; the input reads as it did. -/
def fnExactAnalyseSpec : ChangeSpec := { name := "fnExactAnalyse", vars := ["loop.example/g00051/impl.sines"], fn := fun _ => fun
  | [d1, d2, g1] => { results := [.lit (.bool true)], args := [d1, d2], vars := [g1] }
  | _ => none }
def fnExactAnalyseRow : OpenClaim := { program := "ytbgacfjocjcffabdoor", sum := "1dab0ae7e5f53cccba7bde208feaff0364137b75d5d02520322fc60d0b127a6a", func := "loop.example/g00051/laws.FnExactAnalyse", spec := "fnExactAnalyse", inPlace := ["math.Float64frombits"], named := ["loop.example/g00051/impl.sines"], apart := false, laid := [("loop.example/g00051/impl.sines", laid_loop_example_g00051_impl_sines)] }
def FnExactAnalyseSaid : Prop := fnExactAnalyseRow.holds Tryd.pinned (OpenSpec.ofChange fnExactAnalyseSpec)

/-- ITS FALSE NEIGHBOUR: 'it returns false'. Refute it at one input. -/
def fnExactAnalyseWrong : ChangeSpec := { name := "fnExactAnalyse", vars := ["loop.example/g00051/impl.sines"], fn := fun _ => fun
  | [d1, d2, g1] => { results := [.lit (.bool false)], args := [d1, d2], vars := [g1] }
  | _ => none }
def FnExactAnalyseWrongFalsely : Prop := fnExactAnalyseRow.holds Tryd.pinned (OpenSpec.ofChange fnExactAnalyseWrong)

/-- 'laws.FnExactConvert': WHATEVER THE INPUT: true; the input reads as it did. -/
def fnExactConvertSpec : ChangeSpec := { name := "fnExactConvert", vars := ["loop.example/g00051/impl.units"], fn := fun _ => fun
  | [d1, d2, d3, g1] => { results := [.lit (.bool true)], args := [d1, d2, d3], vars := [g1] }
  | _ => none }
def fnExactConvertRow : OpenClaim := { program := "ytbgacfjocjcffabdoor", sum := "1dab0ae7e5f53cccba7bde208feaff0364137b75d5d02520322fc60d0b127a6a", func := "loop.example/g00051/laws.FnExactConvert", spec := "fnExactConvert", inPlace := ["math.Float64frombits"], named := ["loop.example/g00051/impl.units"], apart := false, laid := [("loop.example/g00051/impl.units", laid_loop_example_g00051_impl_units)] }
def FnExactConvertSaid : Prop := fnExactConvertRow.holds Tryd.pinned (OpenSpec.ofChange fnExactConvertSpec)

/-- ITS FALSE NEIGHBOUR: 'it returns false'. Refute it at one input. -/
def fnExactConvertWrong : ChangeSpec := { name := "fnExactConvert", vars := ["loop.example/g00051/impl.units"], fn := fun _ => fun
  | [d1, d2, d3, g1] => { results := [.lit (.bool false)], args := [d1, d2, d3], vars := [g1] }
  | _ => none }
def FnExactConvertWrongFalsely : Prop := fnExactConvertRow.holds Tryd.pinned (OpenSpec.ofChange fnExactConvertWrong)

/-- 'laws.FnTurned': WHATEVER THE INPUT: true; the input reads as it did. -/
def fnTurnedSpec : ChangeSpec := { name := "fnTurned", vars := ["loop.example/g00051/impl.sines"], fn := fun _ => fun
  | [d, g1] => { results := [.lit (.bool true)], args := [d], vars := [g1] }
  | _ => none }
def fnTurnedRow : OpenClaim := { program := "ytbgacfjocjcffabdoor", sum := "1dab0ae7e5f53cccba7bde208feaff0364137b75d5d02520322fc60d0b127a6a", func := "loop.example/g00051/laws.FnTurned", spec := "fnTurned", named := ["loop.example/g00051/impl.sines"], apart := false, laid := [("loop.example/g00051/impl.sines", laid_loop_example_g00051_impl_sines)] }
def FnTurnedSaid : Prop := fnTurnedRow.holds Tryd.pinned (OpenSpec.ofChange fnTurnedSpec)

/-- ITS FALSE NEIGHBOUR: 'it returns false'. Refute it at one input. -/
def fnTurnedWrong : ChangeSpec := { name := "fnTurned", vars := ["loop.example/g00051/impl.sines"], fn := fun _ => fun
  | [d, g1] => { results := [.lit (.bool false)], args := [d], vars := [g1] }
  | _ => none }
def FnTurnedWrongFalsely : Prop := fnTurnedRow.holds Tryd.pinned (OpenSpec.ofChange fnTurnedWrong)

/- THE SECOND FORM. 'bulk': how many values and letters a reading holds, each counted each time it is reached (what is shared counts as often as it is met; a slice's spare places count too). A statement '..UptoSaid' is the law's where the arguments, and the package variables that the reading takes, are together of bulk at most 1048576: NARROWER than '..Said'. Prove '..Said' where nothing that the law and all that it calls make is longer than what came in: it says more and counts as full. Else prove '..UptoSaid'. A law counts once. -/
mutual
def uptoBulk {H : Type} : DataW H → Nat
  | .lit (.string bytes) => bytes.length + 1
  | .lit _ => 1
  | .nil => 1
  | .ptr d => uptoBulk d + 1
  | .slice elems spare => uptoBulkAll elems + uptoBulkAll spare + 1
  | .agg parts => uptoBulkAll parts + 1
  | .iface _ d => uptoBulk d + 1
  | .map entries => uptoBulkEntries entries + 1
  | .held _ => 1
def uptoBulkAll {H : Type} : List (DataW H) → Nat
  | [] => 0
  | d :: r => uptoBulk d + uptoBulkAll r
def uptoBulkEntries {H : Type} : List (Lit × DataW H) → Nat
  | [] => 0
  | x :: r => uptoBulkEntry x + uptoBulkEntries r
def uptoBulkEntry {H : Type} : Lit × DataW H → Nat
  | (.string bytes, d) => bytes.length + uptoBulk d + 1
  | (_, d) => uptoBulk d + 1
 end
def uptoSmall : (H : Type) → List (DataW H) → Bool := fun _ ds => decide (uptoBulkAll ds ≤ 1048576)
def OpenSpec.upto (s : _root_.Go.ChangeSpec) : _root_.Go.OpenSpec := { _root_.Go.OpenSpec.ofChange s with cond := some uptoSmall }

/-- 'laws.FnExactBeaufort', WHERE WHAT IT READS IS OF BULK AT MOST 1048576: true; the input reads as it did. -/
def fnExactBeaufortUptoRow : OpenClaim := { program := "ytbgacfjocjcffabdoor", sum := "1dab0ae7e5f53cccba7bde208feaff0364137b75d5d02520322fc60d0b127a6a", func := "loop.example/g00051/laws.FnExactBeaufort", spec := "fnExactBeaufort", named := ["loop.example/g00051/impl.forces"], apart := false, laid := [("loop.example/g00051/impl.forces", laid_loop_example_g00051_impl_forces)], narrowed := true }
def FnExactBeaufortUptoSaid : Prop := fnExactBeaufortUptoRow.holds Tryd.pinned (OpenSpec.upto fnExactBeaufortSpec)

/-- 'laws.FnExactWindPair', WHERE WHAT IT READS IS OF BULK AT MOST 1048576: true; the input reads as it did. -/
def fnExactWindPairUptoRow : OpenClaim := { program := "ytbgacfjocjcffabdoor", sum := "1dab0ae7e5f53cccba7bde208feaff0364137b75d5d02520322fc60d0b127a6a", func := "loop.example/g00051/laws.FnExactWindPair", spec := "fnExactWindPair", inPlace := ["math.Float64bits", "math.Float64frombits"], named := ["loop.example/g00051/impl.sines"], apart := false, laid := [("loop.example/g00051/impl.sines", laid_loop_example_g00051_impl_sines)], narrowed := true }
def FnExactWindPairUptoSaid : Prop := fnExactWindPairUptoRow.holds Tryd.pinned (OpenSpec.upto fnExactWindPairSpec)

/-- 'laws.FnExactTurn', WHERE WHAT IT READS IS OF BULK AT MOST 1048576: true; the input reads as it did. -/
def fnExactTurnUptoRow : OpenClaim := { program := "ytbgacfjocjcffabdoor", sum := "1dab0ae7e5f53cccba7bde208feaff0364137b75d5d02520322fc60d0b127a6a", func := "loop.example/g00051/laws.FnExactTurn", spec := "fnExactTurn", named := ["loop.example/g00051/impl.sines"], apart := false, laid := [("loop.example/g00051/impl.sines", laid_loop_example_g00051_impl_sines)], narrowed := true }
def FnExactTurnUptoSaid : Prop := fnExactTurnUptoRow.holds Tryd.pinned (OpenSpec.upto fnExactTurnSpec)

/-- 'laws.FnExactAnalyse', WHERE WHAT IT READS IS OF BULK AT MOST 1048576: true; the input reads as it did. -/
def fnExactAnalyseUptoRow : OpenClaim := { program := "ytbgacfjocjcffabdoor", sum := "1dab0ae7e5f53cccba7bde208feaff0364137b75d5d02520322fc60d0b127a6a", func := "loop.example/g00051/laws.FnExactAnalyse", spec := "fnExactAnalyse", inPlace := ["math.Float64frombits"], named := ["loop.example/g00051/impl.sines"], apart := false, laid := [("loop.example/g00051/impl.sines", laid_loop_example_g00051_impl_sines)], narrowed := true }
def FnExactAnalyseUptoSaid : Prop := fnExactAnalyseUptoRow.holds Tryd.pinned (OpenSpec.upto fnExactAnalyseSpec)

/-- 'laws.FnExactConvert', WHERE WHAT IT READS IS OF BULK AT MOST 1048576: true; the input reads as it did. -/
def fnExactConvertUptoRow : OpenClaim := { program := "ytbgacfjocjcffabdoor", sum := "1dab0ae7e5f53cccba7bde208feaff0364137b75d5d02520322fc60d0b127a6a", func := "loop.example/g00051/laws.FnExactConvert", spec := "fnExactConvert", inPlace := ["math.Float64frombits"], named := ["loop.example/g00051/impl.units"], apart := false, laid := [("loop.example/g00051/impl.units", laid_loop_example_g00051_impl_units)], narrowed := true }
def FnExactConvertUptoSaid : Prop := fnExactConvertUptoRow.holds Tryd.pinned (OpenSpec.upto fnExactConvertSpec)

/-- 'laws.FnTurned', WHERE WHAT IT READS IS OF BULK AT MOST 1048576: true; the input reads as it did. -/
def fnTurnedUptoRow : OpenClaim := { program := "ytbgacfjocjcffabdoor", sum := "1dab0ae7e5f53cccba7bde208feaff0364137b75d5d02520322fc60d0b127a6a", func := "loop.example/g00051/laws.FnTurned", spec := "fnTurned", named := ["loop.example/g00051/impl.sines"], apart := false, laid := [("loop.example/g00051/impl.sines", laid_loop_example_g00051_impl_sines)], narrowed := true }
def FnTurnedUptoSaid : Prop := fnTurnedUptoRow.holds Tryd.pinned (OpenSpec.upto fnTurnedSpec)

end Rows
end Go.Proofs.YtbgacfjocjcffabDoor
