/-
  No cell of these rows narrows 'for every input' (looked for: loops, veiled, ifaces, maps, wideKeys, modest, calm, conditions, laid).
  DERIVED. THE GIVEN ROWS OF THIS SEAT. 12 by the template 'for every input the law returns true; each argument reads behind the call as it read before'; 0 by the template 'total and deterministic' (their statements: YtfpddfhndifnoaaTotals.lean).
  GIVEN WITH THE SEED: the statements are not yours to turn. If you find one false, say at which input.
  Laid BY PROGRAM, IN A SANDBOX (cutbox-rows.mjs): the forced cells as the released guide's own fill.sh prints them over the translation e3cf50abef5a5cd6… (all of the seat's roots in one cut). By AI agents, Wed Nov 11 2026. No macro, syntax, notation, axiom, sorry.
-/
import Derived.Test.YtfpddfhndifnoaaChecked
import GoSem.Claim
import GoSem.ClaimJoined
import GoSem.ClaimMapViews
import Derived.JoinedTies
import Derived.KernelRfl
namespace Go.Proofs.Ytfpddfhndifnoaa
/- THE CELL 'sum', in the pinned program and in every row, IS THE sha256 OF THE DUMP (.gsa) THAT YtfpddfhndifnoaaProg.lean LOADS. Nothing in Lean hashes anything: it is a label: what it is worth is what the hold of that sum in a sandbox is worth. -/
noncomputable def Try.pinned : Pinned := { name := "ytfpddfhndifnoaa", sum := "e3cf50abef5a5cd6e23f250a9d248148e2c3a80c4201d7726e9f27abf8ee3942", checked := Try.checked }
namespace Rows
def none {H : Type} : Left H := { results := [], args := [] }

/-- 'laws.FnProper': WHATEVER THE INPUT: true; the input reads as it did. -/
def fnProperSpec : ChangeSpec := { name := "fnProper", fn := fun _ => fun
  | [d1, d2] => { results := [.lit (.bool true)], args := [d1, d2] }
  | _ => none }
def fnProperRow : OpenClaim := { program := "ytfpddfhndifnoaa", sum := "e3cf50abef5a5cd6e23f250a9d248148e2c3a80c4201d7726e9f27abf8ee3942", func := "loop.example/g00051/laws.FnProper", spec := "fnProper", apart := false }
def FnProperSaid : Prop := fnProperRow.holds Try.pinned (OpenSpec.ofChange fnProperSpec)

/-- ITS FALSE NEIGHBOUR: 'it returns false'. Refute it at one input. -/
def fnProperWrong : ChangeSpec := { name := "fnProper", fn := fun _ => fun
  | [d1, d2] => { results := [.lit (.bool false)], args := [d1, d2] }
  | _ => none }
def FnProperWrongFalsely : Prop := fnProperRow.holds Try.pinned (OpenSpec.ofChange fnProperWrong)

/-- 'laws.FnExactMarkOf': WHATEVER THE INPUT: true; the input reads as it did. -/
def fnExactMarkOfSpec : ChangeSpec := { name := "fnExactMarkOf", fn := fun _ => fun
  | [d] => { results := [.lit (.bool true)], args := [d] }
  | _ => none }
def fnExactMarkOfRow : OpenClaim := { program := "ytfpddfhndifnoaa", sum := "e3cf50abef5a5cd6e23f250a9d248148e2c3a80c4201d7726e9f27abf8ee3942", func := "loop.example/g00051/laws.FnExactMarkOf", spec := "fnExactMarkOf", apart := false }
def FnExactMarkOfSaid : Prop := fnExactMarkOfRow.holds Try.pinned (OpenSpec.ofChange fnExactMarkOfSpec)

/-- ITS FALSE NEIGHBOUR: 'it returns false'. Refute it at one input. -/
def fnExactMarkOfWrong : ChangeSpec := { name := "fnExactMarkOf", fn := fun _ => fun
  | [d] => { results := [.lit (.bool false)], args := [d] }
  | _ => none }
def FnExactMarkOfWrongFalsely : Prop := fnExactMarkOfRow.holds Try.pinned (OpenSpec.ofChange fnExactMarkOfWrong)

/-- 'laws.FnExactSlots': WHATEVER THE INPUT: true; the input reads as it did. -/
def fnExactSlotsSpec : ChangeSpec := { name := "fnExactSlots", fn := fun _ => fun
  | [d1, d2] => { results := [.lit (.bool true)], args := [d1, d2] }
  | _ => none }
def fnExactSlotsRow : OpenClaim := { program := "ytfpddfhndifnoaa", sum := "e3cf50abef5a5cd6e23f250a9d248148e2c3a80c4201d7726e9f27abf8ee3942", func := "loop.example/g00051/laws.FnExactSlots", spec := "fnExactSlots", apart := false }
def FnExactSlotsSaid : Prop := fnExactSlotsRow.holds Try.pinned (OpenSpec.ofChange fnExactSlotsSpec)

/-- ITS FALSE NEIGHBOUR: 'it returns false'. Refute it at one input. -/
def fnExactSlotsWrong : ChangeSpec := { name := "fnExactSlots", fn := fun _ => fun
  | [d1, d2] => { results := [.lit (.bool false)], args := [d1, d2] }
  | _ => none }
def FnExactSlotsWrongFalsely : Prop := fnExactSlotsRow.holds Try.pinned (OpenSpec.ofChange fnExactSlotsWrong)

/-- 'laws.FnExactDegrees': WHATEVER THE INPUT: true; the input reads as it did. -/
def fnExactDegreesSpec : ChangeSpec := { name := "fnExactDegrees", fn := fun _ => fun
  | [d1, d2] => { results := [.lit (.bool true)], args := [d1, d2] }
  | _ => none }
def fnExactDegreesRow : OpenClaim := { program := "ytfpddfhndifnoaa", sum := "e3cf50abef5a5cd6e23f250a9d248148e2c3a80c4201d7726e9f27abf8ee3942", func := "loop.example/g00051/laws.FnExactDegrees", spec := "fnExactDegrees", apart := false }
def FnExactDegreesSaid : Prop := fnExactDegreesRow.holds Try.pinned (OpenSpec.ofChange fnExactDegreesSpec)

/-- ITS FALSE NEIGHBOUR: 'it returns false'. Refute it at one input. -/
def fnExactDegreesWrong : ChangeSpec := { name := "fnExactDegrees", fn := fun _ => fun
  | [d1, d2] => { results := [.lit (.bool false)], args := [d1, d2] }
  | _ => none }
def FnExactDegreesWrongFalsely : Prop := fnExactDegreesRow.holds Try.pinned (OpenSpec.ofChange fnExactDegreesWrong)

/-- 'laws.FnExactOver': WHATEVER THE INPUT: true; the input reads as it did. -/
def fnExactOverSpec : ChangeSpec := { name := "fnExactOver", fn := fun _ => fun
  | [d1, d2] => { results := [.lit (.bool true)], args := [d1, d2] }
  | _ => none }
def fnExactOverRow : OpenClaim := { program := "ytfpddfhndifnoaa", sum := "e3cf50abef5a5cd6e23f250a9d248148e2c3a80c4201d7726e9f27abf8ee3942", func := "loop.example/g00051/laws.FnExactOver", spec := "fnExactOver", apart := false }
def FnExactOverSaid : Prop := fnExactOverRow.holds Try.pinned (OpenSpec.ofChange fnExactOverSpec)

/-- ITS FALSE NEIGHBOUR: 'it returns false'. Refute it at one input. -/
def fnExactOverWrong : ChangeSpec := { name := "fnExactOver", fn := fun _ => fun
  | [d1, d2] => { results := [.lit (.bool false)], args := [d1, d2] }
  | _ => none }
def FnExactOverWrongFalsely : Prop := fnExactOverRow.holds Try.pinned (OpenSpec.ofChange fnExactOverWrong)

/-- 'laws.FnExactTimeOf': WHATEVER THE INPUT: true; the input reads as it did. -/
def fnExactTimeOfSpec : ChangeSpec := { name := "fnExactTimeOf", fn := fun _ => fun
  | [d] => { results := [.lit (.bool true)], args := [d] }
  | _ => none }
def fnExactTimeOfRow : OpenClaim := { program := "ytfpddfhndifnoaa", sum := "e3cf50abef5a5cd6e23f250a9d248148e2c3a80c4201d7726e9f27abf8ee3942", func := "loop.example/g00051/laws.FnExactTimeOf", spec := "fnExactTimeOf", apart := false }
def FnExactTimeOfSaid : Prop := fnExactTimeOfRow.holds Try.pinned (OpenSpec.ofChange fnExactTimeOfSpec)

/-- ITS FALSE NEIGHBOUR: 'it returns false'. Refute it at one input. -/
def fnExactTimeOfWrong : ChangeSpec := { name := "fnExactTimeOf", fn := fun _ => fun
  | [d] => { results := [.lit (.bool false)], args := [d] }
  | _ => none }
def FnExactTimeOfWrongFalsely : Prop := fnExactTimeOfRow.holds Try.pinned (OpenSpec.ofChange fnExactTimeOfWrong)

/-- 'laws.FnExactBoxOk': WHATEVER THE INPUT: true; the input reads as it did. -/
def fnExactBoxOkSpec : ChangeSpec := { name := "fnExactBoxOk", fn := fun _ => fun
  | [d] => { results := [.lit (.bool true)], args := [d] }
  | _ => none }
def fnExactBoxOkRow : OpenClaim := { program := "ytfpddfhndifnoaa", sum := "e3cf50abef5a5cd6e23f250a9d248148e2c3a80c4201d7726e9f27abf8ee3942", func := "loop.example/g00051/laws.FnExactBoxOk", spec := "fnExactBoxOk", apart := false }
def FnExactBoxOkSaid : Prop := fnExactBoxOkRow.holds Try.pinned (OpenSpec.ofChange fnExactBoxOkSpec)

/-- ITS FALSE NEIGHBOUR: 'it returns false'. Refute it at one input. -/
def fnExactBoxOkWrong : ChangeSpec := { name := "fnExactBoxOk", fn := fun _ => fun
  | [d] => { results := [.lit (.bool false)], args := [d] }
  | _ => none }
def FnExactBoxOkWrongFalsely : Prop := fnExactBoxOkRow.holds Try.pinned (OpenSpec.ofChange fnExactBoxOkWrong)

/-- 'laws.FnExactCrps': WHATEVER THE INPUT: true; the input reads as it did. -/
def fnExactCrpsSpec : ChangeSpec := { name := "fnExactCrps", fn := fun _ => fun
  | [d1, d2] => { results := [.lit (.bool true)], args := [d1, d2] }
  | _ => none }
def fnExactCrpsRow : OpenClaim := { program := "ytfpddfhndifnoaa", sum := "e3cf50abef5a5cd6e23f250a9d248148e2c3a80c4201d7726e9f27abf8ee3942", func := "loop.example/g00051/laws.FnExactCrps", spec := "fnExactCrps", apart := false }
def FnExactCrpsSaid : Prop := fnExactCrpsRow.holds Try.pinned (OpenSpec.ofChange fnExactCrpsSpec)

/-- ITS FALSE NEIGHBOUR: 'it returns false'. Refute it at one input. -/
def fnExactCrpsWrong : ChangeSpec := { name := "fnExactCrps", fn := fun _ => fun
  | [d1, d2] => { results := [.lit (.bool false)], args := [d1, d2] }
  | _ => none }
def FnExactCrpsWrongFalsely : Prop := fnExactCrpsRow.holds Try.pinned (OpenSpec.ofChange fnExactCrpsWrong)

/-- 'laws.FnExactRingOk': WHATEVER THE INPUT: true; the input reads as it did. -/
def fnExactRingOkSpec : ChangeSpec := { name := "fnExactRingOk", fn := fun _ => fun
  | [d] => { results := [.lit (.bool true)], args := [d] }
  | _ => none }
def fnExactRingOkRow : OpenClaim := { program := "ytfpddfhndifnoaa", sum := "e3cf50abef5a5cd6e23f250a9d248148e2c3a80c4201d7726e9f27abf8ee3942", func := "loop.example/g00051/laws.FnExactRingOk", spec := "fnExactRingOk", apart := false }
def FnExactRingOkSaid : Prop := fnExactRingOkRow.holds Try.pinned (OpenSpec.ofChange fnExactRingOkSpec)

/-- ITS FALSE NEIGHBOUR: 'it returns false'. Refute it at one input. -/
def fnExactRingOkWrong : ChangeSpec := { name := "fnExactRingOk", fn := fun _ => fun
  | [d] => { results := [.lit (.bool false)], args := [d] }
  | _ => none }
def FnExactRingOkWrongFalsely : Prop := fnExactRingOkRow.holds Try.pinned (OpenSpec.ofChange fnExactRingOkWrong)

/-- 'laws.FnOverlaps': WHATEVER THE INPUT: true; the input reads as it did. -/
def fnOverlapsSpec : ChangeSpec := { name := "fnOverlaps", fn := fun _ => fun
  | [d] => { results := [.lit (.bool true)], args := [d] }
  | _ => none }
def fnOverlapsRow : OpenClaim := { program := "ytfpddfhndifnoaa", sum := "e3cf50abef5a5cd6e23f250a9d248148e2c3a80c4201d7726e9f27abf8ee3942", func := "loop.example/g00051/laws.FnOverlaps", spec := "fnOverlaps", apart := false }
def FnOverlapsSaid : Prop := fnOverlapsRow.holds Try.pinned (OpenSpec.ofChange fnOverlapsSpec)

/-- ITS FALSE NEIGHBOUR: 'it returns false'. Refute it at one input. -/
def fnOverlapsWrong : ChangeSpec := { name := "fnOverlaps", fn := fun _ => fun
  | [d] => { results := [.lit (.bool false)], args := [d] }
  | _ => none }
def FnOverlapsWrongFalsely : Prop := fnOverlapsRow.holds Try.pinned (OpenSpec.ofChange fnOverlapsWrong)

/-- 'laws.FnExactSpell': WHATEVER THE INPUT: true; the input reads as it did. -/
def fnExactSpellSpec : ChangeSpec := { name := "fnExactSpell", fn := fun _ => fun
  | [d1, d2] => { results := [.lit (.bool true)], args := [d1, d2] }
  | _ => none }
def fnExactSpellRow : OpenClaim := { program := "ytfpddfhndifnoaa", sum := "e3cf50abef5a5cd6e23f250a9d248148e2c3a80c4201d7726e9f27abf8ee3942", func := "loop.example/g00051/laws.FnExactSpell", spec := "fnExactSpell", apart := false }
def FnExactSpellSaid : Prop := fnExactSpellRow.holds Try.pinned (OpenSpec.ofChange fnExactSpellSpec)

/-- ITS FALSE NEIGHBOUR: 'it returns false'. Refute it at one input. -/
def fnExactSpellWrong : ChangeSpec := { name := "fnExactSpell", fn := fun _ => fun
  | [d1, d2] => { results := [.lit (.bool false)], args := [d1, d2] }
  | _ => none }
def FnExactSpellWrongFalsely : Prop := fnExactSpellRow.holds Try.pinned (OpenSpec.ofChange fnExactSpellWrong)

/-- 'laws.FnExactOutletOf': WHATEVER THE INPUT: true; the input reads as it did. -/
def fnExactOutletOfSpec : ChangeSpec := { name := "fnExactOutletOf", fn := fun _ => fun
  | [d1, d2] => { results := [.lit (.bool true)], args := [d1, d2] }
  | _ => none }
def fnExactOutletOfRow : OpenClaim := { program := "ytfpddfhndifnoaa", sum := "e3cf50abef5a5cd6e23f250a9d248148e2c3a80c4201d7726e9f27abf8ee3942", func := "loop.example/g00051/laws.FnExactOutletOf", spec := "fnExactOutletOf", apart := false }
def FnExactOutletOfSaid : Prop := fnExactOutletOfRow.holds Try.pinned (OpenSpec.ofChange fnExactOutletOfSpec)

/-- ITS FALSE NEIGHBOUR: 'it returns false'. Refute it at one input. -/
def fnExactOutletOfWrong : ChangeSpec := { name := "fnExactOutletOf", fn := fun _ => fun
  | [d1, d2] => { results := [.lit (.bool false)], args := [d1, d2] }
  | _ => none }
def FnExactOutletOfWrongFalsely : Prop := fnExactOutletOfRow.holds Try.pinned (OpenSpec.ofChange fnExactOutletOfWrong)

/- THE SECOND FORM. 'bulk': how many values and letters a reading holds, each counted each time it is reached (what is shared counts as often as it is met; a slice's spare places count too). A statement '..UptoSaid' is the law's where the arguments, and the package variables that the reading takes, are together of bulk at most 1048576: NARROWER than '..Said'. Prove '..Said' where nothing that the law and all that it calls make is longer than what came in: it says more and counts as full. Else prove '..UptoSaid'. A law counts once. -/
mutual
def uptoBulk {H : Type} : DataW H → Nat
  | .lit (.string bytes) => bytes.length + 1
  | .lit _ => 1
  | .nil => 1
  | .ptr d => uptoBulk d + 1
  | .slice elems spare => uptoBulkAll elems + uptoBulkAll spare + 1
  | .agg parts => uptoBulkAll parts + 1
  | .iface _ d => uptoBulk d + 1
  | .map entries => uptoBulkEntries entries + 1
  | .held _ => 1
def uptoBulkAll {H : Type} : List (DataW H) → Nat
  | [] => 0
  | d :: r => uptoBulk d + uptoBulkAll r
def uptoBulkEntries {H : Type} : List (Lit × DataW H) → Nat
  | [] => 0
  | x :: r => uptoBulkEntry x + uptoBulkEntries r
def uptoBulkEntry {H : Type} : Lit × DataW H → Nat
  | (.string bytes, d) => bytes.length + uptoBulk d + 1
  | (_, d) => uptoBulk d + 1
 end
def uptoSmall : (H : Type) → List (DataW H) → Bool := fun _ ds => decide (uptoBulkAll ds ≤ 1048576)
def OpenSpec.upto (s : _root_.Go.ChangeSpec) : _root_.Go.OpenSpec := { _root_.Go.OpenSpec.ofChange s with cond := some uptoSmall }

/-- 'laws.FnProper', WHERE WHAT IT READS IS OF BULK AT MOST 1048576: true; the input reads as it did. -/
def fnProperUptoRow : OpenClaim := { program := "ytfpddfhndifnoaa", sum := "e3cf50abef5a5cd6e23f250a9d248148e2c3a80c4201d7726e9f27abf8ee3942", func := "loop.example/g00051/laws.FnProper", spec := "fnProper", apart := false, narrowed := true }
def FnProperUptoSaid : Prop := fnProperUptoRow.holds Try.pinned (OpenSpec.upto fnProperSpec)

/-- 'laws.FnExactMarkOf', WHERE WHAT IT READS IS OF BULK AT MOST 1048576: true; the input reads as it did. -/
def fnExactMarkOfUptoRow : OpenClaim := { program := "ytfpddfhndifnoaa", sum := "e3cf50abef5a5cd6e23f250a9d248148e2c3a80c4201d7726e9f27abf8ee3942", func := "loop.example/g00051/laws.FnExactMarkOf", spec := "fnExactMarkOf", apart := false, narrowed := true }
def FnExactMarkOfUptoSaid : Prop := fnExactMarkOfUptoRow.holds Try.pinned (OpenSpec.upto fnExactMarkOfSpec)

/-- 'laws.FnExactSlots', WHERE WHAT IT READS IS OF BULK AT MOST 1048576: true; the input reads as it did. -/
def fnExactSlotsUptoRow : OpenClaim := { program := "ytfpddfhndifnoaa", sum := "e3cf50abef5a5cd6e23f250a9d248148e2c3a80c4201d7726e9f27abf8ee3942", func := "loop.example/g00051/laws.FnExactSlots", spec := "fnExactSlots", apart := false, narrowed := true }
def FnExactSlotsUptoSaid : Prop := fnExactSlotsUptoRow.holds Try.pinned (OpenSpec.upto fnExactSlotsSpec)

/-- 'laws.FnExactDegrees', WHERE WHAT IT READS IS OF BULK AT MOST 1048576: true; the input reads as it did. -/
def fnExactDegreesUptoRow : OpenClaim := { program := "ytfpddfhndifnoaa", sum := "e3cf50abef5a5cd6e23f250a9d248148e2c3a80c4201d7726e9f27abf8ee3942", func := "loop.example/g00051/laws.FnExactDegrees", spec := "fnExactDegrees", apart := false, narrowed := true }
def FnExactDegreesUptoSaid : Prop := fnExactDegreesUptoRow.holds Try.pinned (OpenSpec.upto fnExactDegreesSpec)

/-- 'laws.FnExactOver', WHERE WHAT IT READS IS OF BULK AT MOST 1048576: true; the input reads as it did. -/
def fnExactOverUptoRow : OpenClaim := { program := "ytfpddfhndifnoaa", sum := "e3cf50abef5a5cd6e23f250a9d248148e2c3a80c4201d7726e9f27abf8ee3942", func := "loop.example/g00051/laws.FnExactOver", spec := "fnExactOver", apart := false, narrowed := true }
def FnExactOverUptoSaid : Prop := fnExactOverUptoRow.holds Try.pinned (OpenSpec.upto fnExactOverSpec)

/-- 'laws.FnExactTimeOf', WHERE WHAT IT READS IS OF BULK AT MOST 1048576: true; the input reads as it did. -/
def fnExactTimeOfUptoRow : OpenClaim := { program := "ytfpddfhndifnoaa", sum := "e3cf50abef5a5cd6e23f250a9d248148e2c3a80c4201d7726e9f27abf8ee3942", func := "loop.example/g00051/laws.FnExactTimeOf", spec := "fnExactTimeOf", apart := false, narrowed := true }
def FnExactTimeOfUptoSaid : Prop := fnExactTimeOfUptoRow.holds Try.pinned (OpenSpec.upto fnExactTimeOfSpec)

/-- 'laws.FnExactBoxOk', WHERE WHAT IT READS IS OF BULK AT MOST 1048576: true; the input reads as it did. -/
def fnExactBoxOkUptoRow : OpenClaim := { program := "ytfpddfhndifnoaa", sum := "e3cf50abef5a5cd6e23f250a9d248148e2c3a80c4201d7726e9f27abf8ee3942", func := "loop.example/g00051/laws.FnExactBoxOk", spec := "fnExactBoxOk", apart := false, narrowed := true }
def FnExactBoxOkUptoSaid : Prop := fnExactBoxOkUptoRow.holds Try.pinned (OpenSpec.upto fnExactBoxOkSpec)

/-- 'laws.FnExactCrps', WHERE WHAT IT READS IS OF BULK AT MOST 1048576: true; the input reads as it did. -/
def fnExactCrpsUptoRow : OpenClaim := { program := "ytfpddfhndifnoaa", sum := "e3cf50abef5a5cd6e23f250a9d248148e2c3a80c4201d7726e9f27abf8ee3942", func := "loop.example/g00051/laws.FnExactCrps", spec := "fnExactCrps", apart := false, narrowed := true }
def FnExactCrpsUptoSaid : Prop := fnExactCrpsUptoRow.holds Try.pinned (OpenSpec.upto fnExactCrpsSpec)

/-- 'laws.FnExactRingOk', WHERE WHAT IT READS IS OF BULK AT MOST 1048576: true; the input reads as it did. -/
def fnExactRingOkUptoRow : OpenClaim := { program := "ytfpddfhndifnoaa", sum := "e3cf50abef5a5cd6e23f250a9d248148e2c3a80c4201d7726e9f27abf8ee3942", func := "loop.example/g00051/laws.FnExactRingOk", spec := "fnExactRingOk", apart := false, narrowed := true }
def FnExactRingOkUptoSaid : Prop := fnExactRingOkUptoRow.holds Try.pinned (OpenSpec.upto fnExactRingOkSpec)

/-- 'laws.FnOverlaps', WHERE WHAT IT READS IS OF BULK AT MOST 1048576: true; the input reads as it did. -/
def fnOverlapsUptoRow : OpenClaim := { program := "ytfpddfhndifnoaa", sum := "e3cf50abef5a5cd6e23f250a9d248148e2c3a80c4201d7726e9f27abf8ee3942", func := "loop.example/g00051/laws.FnOverlaps", spec := "fnOverlaps", apart := false, narrowed := true }
def FnOverlapsUptoSaid : Prop := fnOverlapsUptoRow.holds Try.pinned (OpenSpec.upto fnOverlapsSpec)

/-- 'laws.FnExactSpell', WHERE WHAT IT READS IS OF BULK AT MOST 1048576: true; the input reads as it did. -/
def fnExactSpellUptoRow : OpenClaim := { program := "ytfpddfhndifnoaa", sum := "e3cf50abef5a5cd6e23f250a9d248148e2c3a80c4201d7726e9f27abf8ee3942", func := "loop.example/g00051/laws.FnExactSpell", spec := "fnExactSpell", apart := false, narrowed := true }
def FnExactSpellUptoSaid : Prop := fnExactSpellUptoRow.holds Try.pinned (OpenSpec.upto fnExactSpellSpec)

/-- 'laws.FnExactOutletOf', WHERE WHAT IT READS IS OF BULK AT MOST 1048576: true; the input reads as it did. -/
def fnExactOutletOfUptoRow : OpenClaim := { program := "ytfpddfhndifnoaa", sum := "e3cf50abef5a5cd6e23f250a9d248148e2c3a80c4201d7726e9f27abf8ee3942", func := "loop.example/g00051/laws.FnExactOutletOf", spec := "fnExactOutletOf", apart := false, narrowed := true }
def FnExactOutletOfUptoSaid : Prop := fnExactOutletOfUptoRow.holds Try.pinned (OpenSpec.upto fnExactOutletOfSpec)

end Rows
end Go.Proofs.Ytfpddfhndifnoaa
