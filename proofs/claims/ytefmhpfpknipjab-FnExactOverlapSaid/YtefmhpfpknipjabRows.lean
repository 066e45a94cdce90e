/-
  No cell of these rows narrows 'for every input' (looked for: loops, veiled, ifaces, maps, wideKeys, modest, calm, conditions, laid).
  DERIVED. THE GIVEN ROWS OF THIS SEAT. 6 by the template 'for every input the law returns true; each argument reads behind the call as it read before'; 0 by the template 'total and deterministic' (their statements: YtefmhpfpknipjabTotals.lean).
  GIVEN WITH THE SEED: the statements are not yours to turn. If you find one false, say at which input.
  Laid BY PROGRAM, IN A SANDBOX (cutbox-rows.mjs): the forced cells as the released guide's own fill.sh prints them over the translation 9b8b79dfee8a3788… (all of the seat's roots in one cut). By AI agents, Wed Nov 11 2026. No macro, syntax, notation, axiom, sorry.
-/
import Derived.Test.YtefmhpfpknipjabChecked
import GoSem.Claim
import GoSem.ClaimJoined
import GoSem.ClaimMapViews
import Derived.JoinedTies
import Derived.KernelRfl
namespace Go.Proofs.Ytefmhpfpknipjab
/- THE CELL 'sum', in the pinned program and in every row, IS THE sha256 OF THE DUMP (.gsa) THAT YtefmhpfpknipjabProg.lean LOADS. Nothing in Lean hashes anything: it is a label: what it is worth is what the hold of that sum in a sandbox is worth. -/
noncomputable def Try.pinned : Pinned := { name := "ytefmhpfpknipjab", sum := "9b8b79dfee8a3788f3ace871098e59862f373744b21737647563964b744c9e02", checked := Try.checked }
namespace Rows
def none {H : Type} : Left H := { results := [], args := [] }

/-- 'laws.FnExactInside': WHATEVER THE INPUT: true; the input reads as it did. -/
def fnExactInsideSpec : ChangeSpec := { name := "fnExactInside", fn := fun _ => fun
  | [d1, d2] => { results := [.lit (.bool true)], args := [d1, d2] }
  | _ => none }
def fnExactInsideRow : OpenClaim := { program := "ytefmhpfpknipjab", sum := "9b8b79dfee8a3788f3ace871098e59862f373744b21737647563964b744c9e02", func := "loop.example/g00051/laws.FnExactInside", spec := "fnExactInside", unfollowed := true, recurses := true, apart := false }
def FnExactInsideSaid : Prop := fnExactInsideRow.holds Try.pinned (OpenSpec.ofChange fnExactInsideSpec)

/-- ITS FALSE NEIGHBOUR: 'it returns false'. Refute it at one input. -/
def fnExactInsideWrong : ChangeSpec := { name := "fnExactInside", fn := fun _ => fun
  | [d1, d2] => { results := [.lit (.bool false)], args := [d1, d2] }
  | _ => none }
def FnExactInsideWrongFalsely : Prop := fnExactInsideRow.holds Try.pinned (OpenSpec.ofChange fnExactInsideWrong)

/-- 'laws.FnExactConjPair': WHATEVER THE INPUT: true; the input reads as it did. -/
def fnExactConjPairSpec : ChangeSpec := { name := "fnExactConjPair", fn := fun _ => fun
  | [d] => { results := [.lit (.bool true)], args := [d] }
  | _ => none }
def fnExactConjPairRow : OpenClaim := { program := "ytefmhpfpknipjab", sum := "9b8b79dfee8a3788f3ace871098e59862f373744b21737647563964b744c9e02", func := "loop.example/g00051/laws.FnExactConjPair", spec := "fnExactConjPair", apart := false }
def FnExactConjPairSaid : Prop := fnExactConjPairRow.holds Try.pinned (OpenSpec.ofChange fnExactConjPairSpec)

/-- ITS FALSE NEIGHBOUR: 'it returns false'. Refute it at one input. -/
def fnExactConjPairWrong : ChangeSpec := { name := "fnExactConjPair", fn := fun _ => fun
  | [d] => { results := [.lit (.bool false)], args := [d] }
  | _ => none }
def FnExactConjPairWrongFalsely : Prop := fnExactConjPairRow.holds Try.pinned (OpenSpec.ofChange fnExactConjPairWrong)

/-- 'laws.FnExactAddPair': WHATEVER THE INPUT: true; the input reads as it did. -/
def fnExactAddPairSpec : ChangeSpec := { name := "fnExactAddPair", fn := fun _ => fun
  | [d1, d2] => { results := [.lit (.bool true)], args := [d1, d2] }
  | _ => none }
def fnExactAddPairRow : OpenClaim := { program := "ytefmhpfpknipjab", sum := "9b8b79dfee8a3788f3ace871098e59862f373744b21737647563964b744c9e02", func := "loop.example/g00051/laws.FnExactAddPair", spec := "fnExactAddPair", apart := false }
def FnExactAddPairSaid : Prop := fnExactAddPairRow.holds Try.pinned (OpenSpec.ofChange fnExactAddPairSpec)

/-- ITS FALSE NEIGHBOUR: 'it returns false'. Refute it at one input. -/
def fnExactAddPairWrong : ChangeSpec := { name := "fnExactAddPair", fn := fun _ => fun
  | [d1, d2] => { results := [.lit (.bool false)], args := [d1, d2] }
  | _ => none }
def FnExactAddPairWrongFalsely : Prop := fnExactAddPairRow.holds Try.pinned (OpenSpec.ofChange fnExactAddPairWrong)

/-- 'laws.FnExactMulPair': WHATEVER THE INPUT: true; the input reads as it did. -/
def fnExactMulPairSpec : ChangeSpec := { name := "fnExactMulPair", fn := fun _ => fun
  | [d1, d2] => { results := [.lit (.bool true)], args := [d1, d2] }
  | _ => none }
def fnExactMulPairRow : OpenClaim := { program := "ytefmhpfpknipjab", sum := "9b8b79dfee8a3788f3ace871098e59862f373744b21737647563964b744c9e02", func := "loop.example/g00051/laws.FnExactMulPair", spec := "fnExactMulPair", apart := false }
def FnExactMulPairSaid : Prop := fnExactMulPairRow.holds Try.pinned (OpenSpec.ofChange fnExactMulPairSpec)

/-- ITS FALSE NEIGHBOUR: 'it returns false'. Refute it at one input. -/
def fnExactMulPairWrong : ChangeSpec := { name := "fnExactMulPair", fn := fun _ => fun
  | [d1, d2] => { results := [.lit (.bool false)], args := [d1, d2] }
  | _ => none }
def FnExactMulPairWrongFalsely : Prop := fnExactMulPairRow.holds Try.pinned (OpenSpec.ofChange fnExactMulPairWrong)

/-- 'laws.FnExactOverlap': WHATEVER THE INPUT: true; the input reads as it did. -/
def fnExactOverlapSpec : ChangeSpec := { name := "fnExactOverlap", fn := fun _ => fun
  | [d1, d2] => { results := [.lit (.bool true)], args := [d1, d2] }
  | _ => none }
def fnExactOverlapRow : OpenClaim := { program := "ytefmhpfpknipjab", sum := "9b8b79dfee8a3788f3ace871098e59862f373744b21737647563964b744c9e02", func := "loop.example/g00051/laws.FnExactOverlap", spec := "fnExactOverlap", apart := false }
def FnExactOverlapSaid : Prop := fnExactOverlapRow.holds Try.pinned (OpenSpec.ofChange fnExactOverlapSpec)

/-- ITS FALSE NEIGHBOUR: 'it returns false'. Refute it at one input. -/
def fnExactOverlapWrong : ChangeSpec := { name := "fnExactOverlap", fn := fun _ => fun
  | [d1, d2] => { results := [.lit (.bool false)], args := [d1, d2] }
  | _ => none }
def FnExactOverlapWrongFalsely : Prop := fnExactOverlapRow.holds Try.pinned (OpenSpec.ofChange fnExactOverlapWrong)

/-- 'laws.FnExactVapour': WHATEVER THE INPUT: true; the input reads as it did. -/
def fnExactVapourSpec : ChangeSpec := { name := "fnExactVapour", fn := fun _ => fun
  | [d] => { results := [.lit (.bool true)], args := [d] }
  | _ => none }
def fnExactVapourRow : OpenClaim := { program := "ytefmhpfpknipjab", sum := "9b8b79dfee8a3788f3ace871098e59862f373744b21737647563964b744c9e02", func := "loop.example/g00051/laws.FnExactVapour", spec := "fnExactVapour", inPlace := ["math.Float64frombits"], apart := false }
def FnExactVapourSaid : Prop := fnExactVapourRow.holds Try.pinned (OpenSpec.ofChange fnExactVapourSpec)

/-- ITS FALSE NEIGHBOUR: 'it returns false'. Refute it at one input. -/
def fnExactVapourWrong : ChangeSpec := { name := "fnExactVapour", fn := fun _ => fun
  | [d] => { results := [.lit (.bool false)], args := [d] }
  | _ => none }
def FnExactVapourWrongFalsely : Prop := fnExactVapourRow.holds Try.pinned (OpenSpec.ofChange fnExactVapourWrong)

/- THE SECOND FORM. 'bulk': how many values and letters a reading holds, each counted each time it is reached (what is shared counts as often as it is met; a slice's spare places count too). A statement '..UptoSaid' is the law's where the arguments, and the package variables that the reading takes, are together of bulk at most 1048576: NARROWER than '..Said'. Prove '..Said' where nothing that the law and all that it calls make is longer than what came in: it says more and counts as full. Else prove '..UptoSaid'. A law counts once. -/
mutual
def uptoBulk {H : Type} : DataW H → Nat
  | .lit (.string bytes) => bytes.length + 1
  | .lit _ => 1
  | .nil => 1
  | .ptr d => uptoBulk d + 1
  | .slice elems spare => uptoBulkAll elems + uptoBulkAll spare + 1
  | .agg parts => uptoBulkAll parts + 1
  | .iface _ d => uptoBulk d + 1
  | .map entries => uptoBulkEntries entries + 1
  | .held _ => 1
def uptoBulkAll {H : Type} : List (DataW H) → Nat
  | [] => 0
  | d :: r => uptoBulk d + uptoBulkAll r
def uptoBulkEntries {H : Type} : List (Lit × DataW H) → Nat
  | [] => 0
  | x :: r => uptoBulkEntry x + uptoBulkEntries r
def uptoBulkEntry {H : Type} : Lit × DataW H → Nat
  | (.string bytes, d) => bytes.length + uptoBulk d + 1
  | (_, d) => uptoBulk d + 1
 end
def uptoSmall : (H : Type) → List (DataW H) → Bool := fun _ ds => decide (uptoBulkAll ds ≤ 1048576)
def OpenSpec.upto (s : _root_.Go.ChangeSpec) : _root_.Go.OpenSpec := { _root_.Go.OpenSpec.ofChange s with cond := some uptoSmall }

/-- 'laws.FnExactInside', WHERE WHAT IT READS IS OF BULK AT MOST 1048576: true; the input reads as it did. -/
def fnExactInsideUptoRow : OpenClaim := { program := "ytefmhpfpknipjab", sum := "9b8b79dfee8a3788f3ace871098e59862f373744b21737647563964b744c9e02", func := "loop.example/g00051/laws.FnExactInside", spec := "fnExactInside", unfollowed := true, recurses := true, apart := false, narrowed := true }
def FnExactInsideUptoSaid : Prop := fnExactInsideUptoRow.holds Try.pinned (OpenSpec.upto fnExactInsideSpec)

/-- 'laws.FnExactConjPair', WHERE WHAT IT READS IS OF BULK AT MOST 1048576: true; the input reads as it did. -/
def fnExactConjPairUptoRow : OpenClaim := { program := "ytefmhpfpknipjab", sum := "9b8b79dfee8a3788f3ace871098e59862f373744b21737647563964b744c9e02", func := "loop.example/g00051/laws.FnExactConjPair", spec := "fnExactConjPair", apart := false, narrowed := true }
def FnExactConjPairUptoSaid : Prop := fnExactConjPairUptoRow.holds Try.pinned (OpenSpec.upto fnExactConjPairSpec)

/-- 'laws.FnExactAddPair', WHERE WHAT IT READS IS OF BULK AT MOST 1048576: true; the input reads as it did. -/
def fnExactAddPairUptoRow : OpenClaim := { program := "ytefmhpfpknipjab", sum := "9b8b79dfee8a3788f3ace871098e59862f373744b21737647563964b744c9e02", func := "loop.example/g00051/laws.FnExactAddPair", spec := "fnExactAddPair", apart := false, narrowed := true }
def FnExactAddPairUptoSaid : Prop := fnExactAddPairUptoRow.holds Try.pinned (OpenSpec.upto fnExactAddPairSpec)

/-- 'laws.FnExactMulPair', WHERE WHAT IT READS IS OF BULK AT MOST 1048576: true; the input reads as it did. -/
def fnExactMulPairUptoRow : OpenClaim := { program := "ytefmhpfpknipjab", sum := "9b8b79dfee8a3788f3ace871098e59862f373744b21737647563964b744c9e02", func := "loop.example/g00051/laws.FnExactMulPair", spec := "fnExactMulPair", apart := false, narrowed := true }
def FnExactMulPairUptoSaid : Prop := fnExactMulPairUptoRow.holds Try.pinned (OpenSpec.upto fnExactMulPairSpec)

/-- 'laws.FnExactOverlap', WHERE WHAT IT READS IS OF BULK AT MOST 1048576: true; the input reads as it did. -/
def fnExactOverlapUptoRow : OpenClaim := { program := "ytefmhpfpknipjab", sum := "9b8b79dfee8a3788f3ace871098e59862f373744b21737647563964b744c9e02", func := "loop.example/g00051/laws.FnExactOverlap", spec := "fnExactOverlap", apart := false, narrowed := true }
def FnExactOverlapUptoSaid : Prop := fnExactOverlapUptoRow.holds Try.pinned (OpenSpec.upto fnExactOverlapSpec)

/-- 'laws.FnExactVapour', WHERE WHAT IT READS IS OF BULK AT MOST 1048576: true; the input reads as it did. -/
def fnExactVapourUptoRow : OpenClaim := { program := "ytefmhpfpknipjab", sum := "9b8b79dfee8a3788f3ace871098e59862f373744b21737647563964b744c9e02", func := "loop.example/g00051/laws.FnExactVapour", spec := "fnExactVapour", inPlace := ["math.Float64frombits"], apart := false, narrowed := true }
def FnExactVapourUptoSaid : Prop := fnExactVapourUptoRow.holds Try.pinned (OpenSpec.upto fnExactVapourSpec)

end Rows
end Go.Proofs.Ytefmhpfpknipjab
