/-
  NARROWER THAN 'FOR EVERY INPUT', by the rows' own cells (each row's printed sentence says how): FnExactSkyOk: laid · FnExactBeaufort: laid.
  DERIVED. THE GIVEN ROWS OF THIS SEAT. 2 by the template 'for every input the law returns true; each argument reads behind the call as it read before'; 0 by the template 'total and deterministic' (their statements: YtoghojneidpkkaaDoorTotals.lean).
  GIVEN WITH THE SEED: the statements are not yours to turn. If you find one false, say at which input.
  Laid BY PROGRAM, IN A SANDBOX (cutbox-rows.mjs): the forced cells as the released guide's own fill.sh prints them over the translation 4e609b0a27308513… (all of the seat's roots in one cut). By AI agents, Wed Nov 11 2026. No macro, syntax, notation, axiom, sorry.
-/
import Derived.Test.YtoghojneidpkkaaDoorChecked
import GoSem.Claim
import GoSem.ClaimJoined
import GoSem.ClaimMapViews
import Derived.JoinedTies
import Derived.KernelRfl
namespace Go.Proofs.YtoghojneidpkkaaDoor
/- THE CELL 'sum', in the pinned program and in every row, IS THE sha256 OF THE DUMP (.gsa) THAT YtoghojneidpkkaaDoorProg.lean LOADS. Nothing in Lean hashes anything: it is a label: what it is worth is what the hold of that sum in a sandbox is worth. -/
noncomputable def Tryd.pinned : Pinned := { name := "ytoghojneidpkkaadoor", sum := "4e609b0a27308513cc720a9fbb60b11be187ee243be3f2ed45f8f72ebdb35027", checked := Tryd.checked }
namespace Rows
def none {H : Type} : Left H := { results := [], args := [] }

/- WHAT THE LISTED PACKAGE-LEVEL VARIABLES READ AS WHEN THE CALL BEGINS. Each datum BY PROGRAM (the guide's laid-datum.mjs) off the statement by which the dump's own 'gosem.cut.vars' lays the variable. In a bare row this is a premise. The card (YtoghojneidpkkaaDoorCards.lean) ties it to the program's text. -/
def laid_loop_example_g00051_impl_weathers {H : Type} : DataW H := .slice [.lit (.string [78, 83, 87]), .lit (.string [82, 65]), .lit (.string [45, 82, 65]), .lit (.string [43, 82, 65]), .lit (.string [83, 78]), .lit (.string [45, 83, 78]), .lit (.string [43, 83, 78]), .lit (.string [84, 83, 82, 65]), .lit (.string [70, 71]), .lit (.string [66, 82])] []
def laid_loop_example_g00051_impl_covers {H : Type} : DataW H := .slice [.lit (.string [70, 69, 87]), .lit (.string [83, 67, 84]), .lit (.string [66, 75, 78]), .lit (.string [79, 86, 67])] []
def laid_loop_example_g00051_impl_forces {H : Type} : DataW H := .agg [.lit (.float .f64 0), .lit (.float .f64 4599075939470750515), .lit (.float .f64 4609884578576439706), .lit (.float .f64 4614838538166547251), .lit (.float .f64 4617878467915022336), .lit (.float .f64 4620693217682128896), .lit (.float .f64 4622269477551708570), .lit (.float .f64 4624014622407314637), .lit (.float .f64 4625534587281552179), .lit (.float .f64 4626547897197710541), .lit (.float .f64 4627589354611539968), .lit (.float .f64 4628715254518382592), .lit (.float .f64 4629798933178718618)]

/-- 'laws.FnExactSkyOk': WHATEVER THE INPUT: true; the input reads as it did. -/
def fnExactSkyOkSpec : ChangeSpec := { name := "fnExactSkyOk", vars := ["loop.example/g00051/impl.weathers", "loop.example/g00051/impl.covers"], fn := fun _ => fun
  | [d, g1, g2] => { results := [.lit (.bool true)], args := [d], vars := [g1, g2] }
  | _ => none }
def fnExactSkyOkRow : OpenClaim := { program := "ytoghojneidpkkaadoor", sum := "4e609b0a27308513cc720a9fbb60b11be187ee243be3f2ed45f8f72ebdb35027", func := "loop.example/g00051/laws.FnExactSkyOk", spec := "fnExactSkyOk", named := ["loop.example/g00051/impl.weathers", "loop.example/g00051/impl.covers"], apart := false, laid := [("loop.example/g00051/impl.weathers", laid_loop_example_g00051_impl_weathers), ("loop.example/g00051/impl.covers", laid_loop_example_g00051_impl_covers)] }
def FnExactSkyOkSaid : Prop := fnExactSkyOkRow.holds Tryd.pinned (OpenSpec.ofChange fnExactSkyOkSpec)

/-- ITS FALSE NEIGHBOUR: 'it returns false'. Refute it at one input. -/
def fnExactSkyOkWrong : ChangeSpec := { name := "fnExactSkyOk", vars := ["loop.example/g00051/impl.weathers", "loop.example/g00051/impl.covers"], fn := fun _ => fun
  | [d, g1, g2] => { results := [.lit (.bool false)], args := [d], vars := [g1, g2] }
  | _ => none }
def FnExactSkyOkWrongFalsely : Prop := fnExactSkyOkRow.holds Tryd.pinned (OpenSpec.ofChange fnExactSkyOkWrong)

/-- 'laws.FnExactBeaufort': WHATEVER THE INPUT: true; the input reads as it did. -/
def fnExactBeaufortSpec : ChangeSpec := { name := "fnExactBeaufort", vars := ["loop.example/g00051/impl.forces"], fn := fun _ => fun
  | [d, g1] => { results := [.lit (.bool true)], args := [d], vars := [g1] }
  | _ => none }
def fnExactBeaufortRow : OpenClaim := { program := "ytoghojneidpkkaadoor", sum := "4e609b0a27308513cc720a9fbb60b11be187ee243be3f2ed45f8f72ebdb35027", func := "loop.example/g00051/laws.FnExactBeaufort", spec := "fnExactBeaufort", named := ["loop.example/g00051/impl.forces"], apart := false, laid := [("loop.example/g00051/impl.forces", laid_loop_example_g00051_impl_forces)] }
def FnExactBeaufortSaid : Prop := fnExactBeaufortRow.holds Tryd.pinned (OpenSpec.ofChange fnExactBeaufortSpec)

/-- ITS FALSE NEIGHBOUR: 'it returns false'. Refute it at one input. -/
def fnExactBeaufortWrong : ChangeSpec := { name := "fnExactBeaufort", vars := ["loop.example/g00051/impl.forces"], fn := fun _ => fun
  | [d, g1] => { results := [.lit (.bool false)], args := [d], vars := [g1] }
  | _ => none }
def FnExactBeaufortWrongFalsely : Prop := fnExactBeaufortRow.holds Tryd.pinned (OpenSpec.ofChange fnExactBeaufortWrong)

/- THE SECOND FORM. 'bulk': how many values and letters a reading holds, each counted each time it is reached (what is shared counts as often as it is met; a slice's spare places count too). A statement '..UptoSaid' is the law's where the arguments, and the package variables that the reading takes, are together of bulk at most 1048576: NARROWER than '..Said'. Prove '..Said' where nothing that the law and all that it calls make is longer than what came in: it says more and counts as full. Else prove '..UptoSaid'. A law counts once. -/
mutual
def uptoBulk {H : Type} : DataW H → Nat
  | .lit (.string bytes) => bytes.length + 1
  | .lit _ => 1
  | .nil => 1
  | .ptr d => uptoBulk d + 1
  | .slice elems spare => uptoBulkAll elems + uptoBulkAll spare + 1
  | .agg parts => uptoBulkAll parts + 1
  | .iface _ d => uptoBulk d + 1
  | .map entries => uptoBulkEntries entries + 1
  | .held _ => 1
def uptoBulkAll {H : Type} : List (DataW H) → Nat
  | [] => 0
  | d :: r => uptoBulk d + uptoBulkAll r
def uptoBulkEntries {H : Type} : List (Lit × DataW H) → Nat
  | [] => 0
  | x :: r => uptoBulkEntry x + uptoBulkEntries r
def uptoBulkEntry {H : Type} : Lit × DataW H → Nat
  | (.string bytes, d) => bytes.length + uptoBulk d + 1
  | (_, d) => uptoBulk d + 1
 end
def uptoSmall : (H : Type) → List (DataW H) → Bool := fun _ ds => decide (uptoBulkAll ds ≤ 1048576)
def OpenSpec.upto (s : _root_.Go.ChangeSpec) : _root_.Go.OpenSpec := { _root_.Go.OpenSpec.ofChange s with cond := some uptoSmall }

/-- 'laws.FnExactSkyOk', WHERE WHAT IT READS IS OF BULK AT MOST 1048576: true; the input reads as it did. -/
def fnExactSkyOkUptoRow : OpenClaim := { program := "ytoghojneidpkkaadoor", sum := "4e609b0a27308513cc720a9fbb60b11be187ee243be3f2ed45f8f72ebdb35027", func := "loop.example/g00051/laws.FnExactSkyOk", spec := "fnExactSkyOk", named := ["loop.example/g00051/impl.weathers", "loop.example/g00051/impl.covers"], apart := false, laid := [("loop.example/g00051/impl.weathers", laid_loop_example_g00051_impl_weathers), ("loop.example/g00051/impl.covers", laid_loop_example_g00051_impl_covers)], narrowed := true }
def FnExactSkyOkUptoSaid : Prop := fnExactSkyOkUptoRow.holds Tryd.pinned (OpenSpec.upto fnExactSkyOkSpec)

/-- 'laws.FnExactBeaufort', WHERE WHAT IT READS IS OF BULK AT MOST 1048576: true; the input reads as it did. -/
def fnExactBeaufortUptoRow : OpenClaim := { program := "ytoghojneidpkkaadoor", sum := "4e609b0a27308513cc720a9fbb60b11be187ee243be3f2ed45f8f72ebdb35027", func := "loop.example/g00051/laws.FnExactBeaufort", spec := "fnExactBeaufort", named := ["loop.example/g00051/impl.forces"], apart := false, laid := [("loop.example/g00051/impl.forces", laid_loop_example_g00051_impl_forces)], narrowed := true }
def FnExactBeaufortUptoSaid : Prop := fnExactBeaufortUptoRow.holds Tryd.pinned (OpenSpec.upto fnExactBeaufortSpec)

end Rows
end Go.Proofs.YtoghojneidpkkaaDoor
