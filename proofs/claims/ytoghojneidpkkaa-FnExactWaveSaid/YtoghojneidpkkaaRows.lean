/-
  No cell of these rows narrows 'for every input' (looked for: loops, veiled, ifaces, maps, wideKeys, modest, calm, conditions, laid).
  DERIVED. THE GIVEN ROWS OF THIS SEAT. 8 by the template 'for every input the law returns true; each argument reads behind the call as it read before'; 0 by the template 'total and deterministic' (their statements: YtoghojneidpkkaaTotals.lean).
  GIVEN WITH THE SEED: the statements are not yours to turn. If you find one false, say at which input.
  Laid BY PROGRAM, IN A SANDBOX (cutbox-rows.mjs): the forced cells as the released guide's own fill.sh prints them over the translation 20221cd172e798cf… (all of the seat's roots in one cut). By AI agents, Wed Nov 11 2026. No macro, syntax, notation, axiom, sorry.
-/
import Derived.Test.YtoghojneidpkkaaChecked
import GoSem.Claim
import GoSem.ClaimJoined
import GoSem.ClaimMapViews
import Derived.JoinedTies
import Derived.KernelRfl
namespace Go.Proofs.Ytoghojneidpkkaa
/- THE CELL 'sum', in the pinned program and in every row, IS THE sha256 OF THE DUMP (.gsa) THAT YtoghojneidpkkaaProg.lean LOADS. Nothing in Lean hashes anything: it is a label: what it is worth is what the hold of that sum in a sandbox is worth. -/
noncomputable def Try.pinned : Pinned := { name := "ytoghojneidpkkaa", sum := "20221cd172e798cf992bc828e8a0c824bc9cb66ff671de7ffa0bfb570c91b649", checked := Try.checked }
namespace Rows
def none {H : Type} : Left H := { results := [], args := [] }

/-- 'laws.FnExactDateOf': WHATEVER THE INPUT: true; the input reads as it did. -/
def fnExactDateOfSpec : ChangeSpec := { name := "fnExactDateOf", fn := fun _ => fun
  | [d] => { results := [.lit (.bool true)], args := [d] }
  | _ => none }
def fnExactDateOfRow : OpenClaim := { program := "ytoghojneidpkkaa", sum := "20221cd172e798cf992bc828e8a0c824bc9cb66ff671de7ffa0bfb570c91b649", func := "loop.example/g00051/laws.FnExactDateOf", spec := "fnExactDateOf", apart := false }
def FnExactDateOfSaid : Prop := fnExactDateOfRow.holds Try.pinned (OpenSpec.ofChange fnExactDateOfSpec)

/-- ITS FALSE NEIGHBOUR: 'it returns false'. Refute it at one input. -/
def fnExactDateOfWrong : ChangeSpec := { name := "fnExactDateOf", fn := fun _ => fun
  | [d] => { results := [.lit (.bool false)], args := [d] }
  | _ => none }
def FnExactDateOfWrongFalsely : Prop := fnExactDateOfRow.holds Try.pinned (OpenSpec.ofChange fnExactDateOfWrong)

/-- 'laws.FnExactDayOfYear': WHATEVER THE INPUT: true; the input reads as it did. -/
def fnExactDayOfYearSpec : ChangeSpec := { name := "fnExactDayOfYear", fn := fun _ => fun
  | [d] => { results := [.lit (.bool true)], args := [d] }
  | _ => none }
def fnExactDayOfYearRow : OpenClaim := { program := "ytoghojneidpkkaa", sum := "20221cd172e798cf992bc828e8a0c824bc9cb66ff671de7ffa0bfb570c91b649", func := "loop.example/g00051/laws.FnExactDayOfYear", spec := "fnExactDayOfYear", apart := false }
def FnExactDayOfYearSaid : Prop := fnExactDayOfYearRow.holds Try.pinned (OpenSpec.ofChange fnExactDayOfYearSpec)

/-- ITS FALSE NEIGHBOUR: 'it returns false'. Refute it at one input. -/
def fnExactDayOfYearWrong : ChangeSpec := { name := "fnExactDayOfYear", fn := fun _ => fun
  | [d] => { results := [.lit (.bool false)], args := [d] }
  | _ => none }
def FnExactDayOfYearWrongFalsely : Prop := fnExactDayOfYearRow.holds Try.pinned (OpenSpec.ofChange fnExactDayOfYearWrong)

/-- 'laws.FnExactMixed': WHATEVER THE INPUT: true; the input reads as it did. -/
def fnExactMixedSpec : ChangeSpec := { name := "fnExactMixed", fn := fun _ => fun
  | [d1, d2] => { results := [.lit (.bool true)], args := [d1, d2] }
  | _ => none }
def fnExactMixedRow : OpenClaim := { program := "ytoghojneidpkkaa", sum := "20221cd172e798cf992bc828e8a0c824bc9cb66ff671de7ffa0bfb570c91b649", func := "loop.example/g00051/laws.FnExactMixed", spec := "fnExactMixed", apart := false }
def FnExactMixedSaid : Prop := fnExactMixedRow.holds Try.pinned (OpenSpec.ofChange fnExactMixedSpec)

/-- ITS FALSE NEIGHBOUR: 'it returns false'. Refute it at one input. -/
def fnExactMixedWrong : ChangeSpec := { name := "fnExactMixed", fn := fun _ => fun
  | [d1, d2] => { results := [.lit (.bool false)], args := [d1, d2] }
  | _ => none }
def FnExactMixedWrongFalsely : Prop := fnExactMixedRow.holds Try.pinned (OpenSpec.ofChange fnExactMixedWrong)

/-- 'laws.FnExactSoilStep': WHATEVER THE INPUT: true; the input reads as it did. -/
def fnExactSoilStepSpec : ChangeSpec := { name := "fnExactSoilStep", fn := fun _ => fun
  | [d1, d2, d3] => { results := [.lit (.bool true)], args := [d1, d2, d3] }
  | _ => none }
def fnExactSoilStepRow : OpenClaim := { program := "ytoghojneidpkkaa", sum := "20221cd172e798cf992bc828e8a0c824bc9cb66ff671de7ffa0bfb570c91b649", func := "loop.example/g00051/laws.FnExactSoilStep", spec := "fnExactSoilStep", apart := false }
def FnExactSoilStepSaid : Prop := fnExactSoilStepRow.holds Try.pinned (OpenSpec.ofChange fnExactSoilStepSpec)

/-- ITS FALSE NEIGHBOUR: 'it returns false'. Refute it at one input. -/
def fnExactSoilStepWrong : ChangeSpec := { name := "fnExactSoilStep", fn := fun _ => fun
  | [d1, d2, d3] => { results := [.lit (.bool false)], args := [d1, d2, d3] }
  | _ => none }
def FnExactSoilStepWrongFalsely : Prop := fnExactSoilStepRow.holds Try.pinned (OpenSpec.ofChange fnExactSoilStepWrong)

/-- 'laws.FnExactFlood': WHATEVER THE INPUT: true; the input reads as it did. -/
def fnExactFloodSpec : ChangeSpec := { name := "fnExactFlood", fn := fun _ => fun
  | [d1, d2] => { results := [.lit (.bool true)], args := [d1, d2] }
  | _ => none }
def fnExactFloodRow : OpenClaim := { program := "ytoghojneidpkkaa", sum := "20221cd172e798cf992bc828e8a0c824bc9cb66ff671de7ffa0bfb570c91b649", func := "loop.example/g00051/laws.FnExactFlood", spec := "fnExactFlood", apart := false }
def FnExactFloodSaid : Prop := fnExactFloodRow.holds Try.pinned (OpenSpec.ofChange fnExactFloodSpec)

/-- ITS FALSE NEIGHBOUR: 'it returns false'. Refute it at one input. -/
def fnExactFloodWrong : ChangeSpec := { name := "fnExactFlood", fn := fun _ => fun
  | [d1, d2] => { results := [.lit (.bool false)], args := [d1, d2] }
  | _ => none }
def FnExactFloodWrongFalsely : Prop := fnExactFloodRow.holds Try.pinned (OpenSpec.ofChange fnExactFloodWrong)

/-- 'laws.FnExactPermuted': WHATEVER THE INPUT: true; the input reads as it did. -/
def fnExactPermutedSpec : ChangeSpec := { name := "fnExactPermuted", fn := fun _ => fun
  | [d1, d2] => { results := [.lit (.bool true)], args := [d1, d2] }
  | _ => none }
def fnExactPermutedRow : OpenClaim := { program := "ytoghojneidpkkaa", sum := "20221cd172e798cf992bc828e8a0c824bc9cb66ff671de7ffa0bfb570c91b649", func := "loop.example/g00051/laws.FnExactPermuted", spec := "fnExactPermuted", unfollowed := true, recurses := true, apart := false }
def FnExactPermutedSaid : Prop := fnExactPermutedRow.holds Try.pinned (OpenSpec.ofChange fnExactPermutedSpec)

/-- ITS FALSE NEIGHBOUR: 'it returns false'. Refute it at one input. -/
def fnExactPermutedWrong : ChangeSpec := { name := "fnExactPermuted", fn := fun _ => fun
  | [d1, d2] => { results := [.lit (.bool false)], args := [d1, d2] }
  | _ => none }
def FnExactPermutedWrongFalsely : Prop := fnExactPermutedRow.holds Try.pinned (OpenSpec.ofChange fnExactPermutedWrong)

/-- 'laws.FnExactWave': WHATEVER THE INPUT: true; the input reads as it did. -/
def fnExactWaveSpec : ChangeSpec := { name := "fnExactWave", fn := fun _ => fun
  | [d1, d2] => { results := [.lit (.bool true)], args := [d1, d2] }
  | _ => none }
def fnExactWaveRow : OpenClaim := { program := "ytoghojneidpkkaa", sum := "20221cd172e798cf992bc828e8a0c824bc9cb66ff671de7ffa0bfb570c91b649", func := "loop.example/g00051/laws.FnExactWave", spec := "fnExactWave", apart := false }
def FnExactWaveSaid : Prop := fnExactWaveRow.holds Try.pinned (OpenSpec.ofChange fnExactWaveSpec)

/-- ITS FALSE NEIGHBOUR: 'it returns false'. Refute it at one input. -/
def fnExactWaveWrong : ChangeSpec := { name := "fnExactWave", fn := fun _ => fun
  | [d1, d2] => { results := [.lit (.bool false)], args := [d1, d2] }
  | _ => none }
def FnExactWaveWrongFalsely : Prop := fnExactWaveRow.holds Try.pinned (OpenSpec.ofChange fnExactWaveWrong)

/-- 'laws.FnExactInside': WHATEVER THE INPUT: true; the input reads as it did. -/
def fnExactInsideSpec : ChangeSpec := { name := "fnExactInside", fn := fun _ => fun
  | [d1, d2] => { results := [.lit (.bool true)], args := [d1, d2] }
  | _ => none }
def fnExactInsideRow : OpenClaim := { program := "ytoghojneidpkkaa", sum := "20221cd172e798cf992bc828e8a0c824bc9cb66ff671de7ffa0bfb570c91b649", func := "loop.example/g00051/laws.FnExactInside", spec := "fnExactInside", unfollowed := true, recurses := true, apart := false }
def FnExactInsideSaid : Prop := fnExactInsideRow.holds Try.pinned (OpenSpec.ofChange fnExactInsideSpec)

/-- ITS FALSE NEIGHBOUR: 'it returns false'. Refute it at one input. -/
def fnExactInsideWrong : ChangeSpec := { name := "fnExactInside", fn := fun _ => fun
  | [d1, d2] => { results := [.lit (.bool false)], args := [d1, d2] }
  | _ => none }
def FnExactInsideWrongFalsely : Prop := fnExactInsideRow.holds Try.pinned (OpenSpec.ofChange fnExactInsideWrong)

/- THE SECOND FORM. 'bulk': how many values and letters a reading holds, each counted each time it is reached (what is shared counts as often as it is met; a slice's spare places count too). A statement '..UptoSaid' is the law's where the arguments, and the package variables that the reading takes, are together of bulk at most 1048576: NARROWER than '..Said'. Prove '..Said' where nothing that the law and all that it calls make is longer than what came in: it says more and counts as full. Else prove '..UptoSaid'. A law counts once. -/
mutual
def uptoBulk {H : Type} : DataW H → Nat
  | .lit (.string bytes) => bytes.length + 1
  | .lit _ => 1
  | .nil => 1
  | .ptr d => uptoBulk d + 1
  | .slice elems spare => uptoBulkAll elems + uptoBulkAll spare + 1
  | .agg parts => uptoBulkAll parts + 1
  | .iface _ d => uptoBulk d + 1
  | .map entries => uptoBulkEntries entries + 1
  | .held _ => 1
def uptoBulkAll {H : Type} : List (DataW H) → Nat
  | [] => 0
  | d :: r => uptoBulk d + uptoBulkAll r
def uptoBulkEntries {H : Type} : List (Lit × DataW H) → Nat
  | [] => 0
  | x :: r => uptoBulkEntry x + uptoBulkEntries r
def uptoBulkEntry {H : Type} : Lit × DataW H → Nat
  | (.string bytes, d) => bytes.length + uptoBulk d + 1
  | (_, d) => uptoBulk d + 1
 end
def uptoSmall : (H : Type) → List (DataW H) → Bool := fun _ ds => decide (uptoBulkAll ds ≤ 1048576)
def OpenSpec.upto (s : _root_.Go.ChangeSpec) : _root_.Go.OpenSpec := { _root_.Go.OpenSpec.ofChange s with cond := some uptoSmall }

/-- 'laws.FnExactDateOf', WHERE WHAT IT READS IS OF BULK AT MOST 1048576: true; the input reads as it did. -/
def fnExactDateOfUptoRow : OpenClaim := { program := "ytoghojneidpkkaa", sum := "20221cd172e798cf992bc828e8a0c824bc9cb66ff671de7ffa0bfb570c91b649", func := "loop.example/g00051/laws.FnExactDateOf", spec := "fnExactDateOf", apart := false, narrowed := true }
def FnExactDateOfUptoSaid : Prop := fnExactDateOfUptoRow.holds Try.pinned (OpenSpec.upto fnExactDateOfSpec)

/-- 'laws.FnExactDayOfYear', WHERE WHAT IT READS IS OF BULK AT MOST 1048576: true; the input reads as it did. -/
def fnExactDayOfYearUptoRow : OpenClaim := { program := "ytoghojneidpkkaa", sum := "20221cd172e798cf992bc828e8a0c824bc9cb66ff671de7ffa0bfb570c91b649", func := "loop.example/g00051/laws.FnExactDayOfYear", spec := "fnExactDayOfYear", apart := false, narrowed := true }
def FnExactDayOfYearUptoSaid : Prop := fnExactDayOfYearUptoRow.holds Try.pinned (OpenSpec.upto fnExactDayOfYearSpec)

/-- 'laws.FnExactMixed', WHERE WHAT IT READS IS OF BULK AT MOST 1048576: true; the input reads as it did. -/
def fnExactMixedUptoRow : OpenClaim := { program := "ytoghojneidpkkaa", sum := "20221cd172e798cf992bc828e8a0c824bc9cb66ff671de7ffa0bfb570c91b649", func := "loop.example/g00051/laws.FnExactMixed", spec := "fnExactMixed", apart := false, narrowed := true }
def FnExactMixedUptoSaid : Prop := fnExactMixedUptoRow.holds Try.pinned (OpenSpec.upto fnExactMixedSpec)

/-- 'laws.FnExactSoilStep', WHERE WHAT IT READS IS OF BULK AT MOST 1048576: true; the input reads as it did. -/
def fnExactSoilStepUptoRow : OpenClaim := { program := "ytoghojneidpkkaa", sum := "20221cd172e798cf992bc828e8a0c824bc9cb66ff671de7ffa0bfb570c91b649", func := "loop.example/g00051/laws.FnExactSoilStep", spec := "fnExactSoilStep", apart := false, narrowed := true }
def FnExactSoilStepUptoSaid : Prop := fnExactSoilStepUptoRow.holds Try.pinned (OpenSpec.upto fnExactSoilStepSpec)

/-- 'laws.FnExactFlood', WHERE WHAT IT READS IS OF BULK AT MOST 1048576: true; the input reads as it did. -/
def fnExactFloodUptoRow : OpenClaim := { program := "ytoghojneidpkkaa", sum := "20221cd172e798cf992bc828e8a0c824bc9cb66ff671de7ffa0bfb570c91b649", func := "loop.example/g00051/laws.FnExactFlood", spec := "fnExactFlood", apart := false, narrowed := true }
def FnExactFloodUptoSaid : Prop := fnExactFloodUptoRow.holds Try.pinned (OpenSpec.upto fnExactFloodSpec)

/-- 'laws.FnExactPermuted', WHERE WHAT IT READS IS OF BULK AT MOST 1048576: true; the input reads as it did. -/
def fnExactPermutedUptoRow : OpenClaim := { program := "ytoghojneidpkkaa", sum := "20221cd172e798cf992bc828e8a0c824bc9cb66ff671de7ffa0bfb570c91b649", func := "loop.example/g00051/laws.FnExactPermuted", spec := "fnExactPermuted", unfollowed := true, recurses := true, apart := false, narrowed := true }
def FnExactPermutedUptoSaid : Prop := fnExactPermutedUptoRow.holds Try.pinned (OpenSpec.upto fnExactPermutedSpec)

/-- 'laws.FnExactWave', WHERE WHAT IT READS IS OF BULK AT MOST 1048576: true; the input reads as it did. -/
def fnExactWaveUptoRow : OpenClaim := { program := "ytoghojneidpkkaa", sum := "20221cd172e798cf992bc828e8a0c824bc9cb66ff671de7ffa0bfb570c91b649", func := "loop.example/g00051/laws.FnExactWave", spec := "fnExactWave", apart := false, narrowed := true }
def FnExactWaveUptoSaid : Prop := fnExactWaveUptoRow.holds Try.pinned (OpenSpec.upto fnExactWaveSpec)

/-- 'laws.FnExactInside', WHERE WHAT IT READS IS OF BULK AT MOST 1048576: true; the input reads as it did. -/
def fnExactInsideUptoRow : OpenClaim := { program := "ytoghojneidpkkaa", sum := "20221cd172e798cf992bc828e8a0c824bc9cb66ff671de7ffa0bfb570c91b649", func := "loop.example/g00051/laws.FnExactInside", spec := "fnExactInside", unfollowed := true, recurses := true, apart := false, narrowed := true }
def FnExactInsideUptoSaid : Prop := fnExactInsideUptoRow.holds Try.pinned (OpenSpec.upto fnExactInsideSpec)

end Rows
end Go.Proofs.Ytoghojneidpkkaa
