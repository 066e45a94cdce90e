/-
  No cell of these rows narrows 'for every input' (looked for: loops, veiled, ifaces, maps, wideKeys, modest, calm, conditions, laid).
  DERIVED. THE GIVEN ROWS OF THIS SEAT. 15 by the template 'for every input the law returns true; each argument reads behind the call as it read before'; 0 by the template 'total and deterministic' (their statements: YtbgacfjocjcffaaTotals.lean).
  GIVEN WITH THE SEED: the statements are not yours to turn. If you find one false, say at which input.
  Laid BY PROGRAM, IN A SANDBOX (cutbox-rows.mjs): the forced cells as the released guide's own fill.sh prints them over the translation 39851089e7431417… (all of the seat's roots in one cut). By AI agents, Wed Nov 11 2026. No macro, syntax, notation, axiom, sorry.
-/
import Derived.Test.YtbgacfjocjcffaaChecked
import GoSem.Claim
import GoSem.ClaimJoined
import GoSem.ClaimMapViews
import Derived.JoinedTies
import Derived.KernelRfl
namespace Go.Proofs.Ytbgacfjocjcffaa
/- THE CELL 'sum', in the pinned program and in every row, IS THE sha256 OF THE DUMP (.gsa) THAT YtbgacfjocjcffaaProg.lean LOADS. Nothing in Lean hashes anything: it is a label: what it is worth is what the hold of that sum in a sandbox is worth. -/
noncomputable def Try.pinned : Pinned := { name := "ytbgacfjocjcffaa", sum := "39851089e7431417d77c42dbef95c6c623a6d22ab4791233d135e351e96e0dbb", checked := Try.checked }
namespace Rows
def none {H : Type} : Left H := { results := [], args := [] }

/-- 'laws.FnExactSame': WHATEVER THE INPUT: true; the input reads as it did. -/
def fnExactSameSpec : ChangeSpec := { name := "fnExactSame", fn := fun _ => fun
  | [d1, d2] => { results := [.lit (.bool true)], args := [d1, d2] }
  | _ => none }
def fnExactSameRow : OpenClaim := { program := "ytbgacfjocjcffaa", sum := "39851089e7431417d77c42dbef95c6c623a6d22ab4791233d135e351e96e0dbb", func := "loop.example/g00051/laws.FnExactSame", spec := "fnExactSame", inPlace := ["math.Float64bits"], apart := false }
def FnExactSameSaid : Prop := fnExactSameRow.holds Try.pinned (OpenSpec.ofChange fnExactSameSpec)

/-- ITS FALSE NEIGHBOUR: 'it returns false'. Refute it at one input. -/
def fnExactSameWrong : ChangeSpec := { name := "fnExactSame", fn := fun _ => fun
  | [d1, d2] => { results := [.lit (.bool false)], args := [d1, d2] }
  | _ => none }
def FnExactSameWrongFalsely : Prop := fnExactSameRow.holds Try.pinned (OpenSpec.ofChange fnExactSameWrong)

/-- 'laws.FnExactKnown': WHATEVER THE INPUT: true; the input reads as it did. -/
def fnExactKnownSpec : ChangeSpec := { name := "fnExactKnown", fn := fun _ => fun
  | [d] => { results := [.lit (.bool true)], args := [d] }
  | _ => none }
def fnExactKnownRow : OpenClaim := { program := "ytbgacfjocjcffaa", sum := "39851089e7431417d77c42dbef95c6c623a6d22ab4791233d135e351e96e0dbb", func := "loop.example/g00051/laws.FnExactKnown", spec := "fnExactKnown", inPlace := ["math.Float64bits", "math.Float64frombits"], apart := false }
def FnExactKnownSaid : Prop := fnExactKnownRow.holds Try.pinned (OpenSpec.ofChange fnExactKnownSpec)

/-- ITS FALSE NEIGHBOUR: 'it returns false'. Refute it at one input. -/
def fnExactKnownWrong : ChangeSpec := { name := "fnExactKnown", fn := fun _ => fun
  | [d] => { results := [.lit (.bool false)], args := [d] }
  | _ => none }
def FnExactKnownWrongFalsely : Prop := fnExactKnownRow.holds Try.pinned (OpenSpec.ofChange fnExactKnownWrong)

/-- 'laws.FnExactConjPair': WHATEVER THE INPUT: true; the input reads as it did. -/
def fnExactConjPairSpec : ChangeSpec := { name := "fnExactConjPair", fn := fun _ => fun
  | [d] => { results := [.lit (.bool true)], args := [d] }
  | _ => none }
def fnExactConjPairRow : OpenClaim := { program := "ytbgacfjocjcffaa", sum := "39851089e7431417d77c42dbef95c6c623a6d22ab4791233d135e351e96e0dbb", func := "loop.example/g00051/laws.FnExactConjPair", spec := "fnExactConjPair", apart := false }
def FnExactConjPairSaid : Prop := fnExactConjPairRow.holds Try.pinned (OpenSpec.ofChange fnExactConjPairSpec)

/-- ITS FALSE NEIGHBOUR: 'it returns false'. Refute it at one input. -/
def fnExactConjPairWrong : ChangeSpec := { name := "fnExactConjPair", fn := fun _ => fun
  | [d] => { results := [.lit (.bool false)], args := [d] }
  | _ => none }
def FnExactConjPairWrongFalsely : Prop := fnExactConjPairRow.holds Try.pinned (OpenSpec.ofChange fnExactConjPairWrong)

/-- 'laws.FnExactAddPair': WHATEVER THE INPUT: true; the input reads as it did. -/
def fnExactAddPairSpec : ChangeSpec := { name := "fnExactAddPair", fn := fun _ => fun
  | [d1, d2] => { results := [.lit (.bool true)], args := [d1, d2] }
  | _ => none }
def fnExactAddPairRow : OpenClaim := { program := "ytbgacfjocjcffaa", sum := "39851089e7431417d77c42dbef95c6c623a6d22ab4791233d135e351e96e0dbb", func := "loop.example/g00051/laws.FnExactAddPair", spec := "fnExactAddPair", apart := false }
def FnExactAddPairSaid : Prop := fnExactAddPairRow.holds Try.pinned (OpenSpec.ofChange fnExactAddPairSpec)

/-- ITS FALSE NEIGHBOUR: 'it returns false'. Refute it at one input. -/
def fnExactAddPairWrong : ChangeSpec := { name := "fnExactAddPair", fn := fun _ => fun
  | [d1, d2] => { results := [.lit (.bool false)], args := [d1, d2] }
  | _ => none }
def FnExactAddPairWrongFalsely : Prop := fnExactAddPairRow.holds Try.pinned (OpenSpec.ofChange fnExactAddPairWrong)

/-- 'laws.FnExactMulPair': WHATEVER THE INPUT: true; the input reads as it did. -/
def fnExactMulPairSpec : ChangeSpec := { name := "fnExactMulPair", fn := fun _ => fun
  | [d1, d2] => { results := [.lit (.bool true)], args := [d1, d2] }
  | _ => none }
def fnExactMulPairRow : OpenClaim := { program := "ytbgacfjocjcffaa", sum := "39851089e7431417d77c42dbef95c6c623a6d22ab4791233d135e351e96e0dbb", func := "loop.example/g00051/laws.FnExactMulPair", spec := "fnExactMulPair", apart := false }
def FnExactMulPairSaid : Prop := fnExactMulPairRow.holds Try.pinned (OpenSpec.ofChange fnExactMulPairSpec)

/-- ITS FALSE NEIGHBOUR: 'it returns false'. Refute it at one input. -/
def fnExactMulPairWrong : ChangeSpec := { name := "fnExactMulPair", fn := fun _ => fun
  | [d1, d2] => { results := [.lit (.bool false)], args := [d1, d2] }
  | _ => none }
def FnExactMulPairWrongFalsely : Prop := fnExactMulPairRow.holds Try.pinned (OpenSpec.ofChange fnExactMulPairWrong)

/-- 'laws.FnExactVapour': WHATEVER THE INPUT: true; the input reads as it did. -/
def fnExactVapourSpec : ChangeSpec := { name := "fnExactVapour", fn := fun _ => fun
  | [d] => { results := [.lit (.bool true)], args := [d] }
  | _ => none }
def fnExactVapourRow : OpenClaim := { program := "ytbgacfjocjcffaa", sum := "39851089e7431417d77c42dbef95c6c623a6d22ab4791233d135e351e96e0dbb", func := "loop.example/g00051/laws.FnExactVapour", spec := "fnExactVapour", inPlace := ["math.Float64frombits"], apart := false }
def FnExactVapourSaid : Prop := fnExactVapourRow.holds Try.pinned (OpenSpec.ofChange fnExactVapourSpec)

/-- ITS FALSE NEIGHBOUR: 'it returns false'. Refute it at one input. -/
def fnExactVapourWrong : ChangeSpec := { name := "fnExactVapour", fn := fun _ => fun
  | [d] => { results := [.lit (.bool false)], args := [d] }
  | _ => none }
def FnExactVapourWrongFalsely : Prop := fnExactVapourRow.holds Try.pinned (OpenSpec.ofChange fnExactVapourWrong)

/-- 'laws.FnExactBetween': WHATEVER THE INPUT: true; the input reads as it did. -/
def fnExactBetweenSpec : ChangeSpec := { name := "fnExactBetween", fn := fun _ => fun
  | [d1, d2, d3] => { results := [.lit (.bool true)], args := [d1, d2, d3] }
  | _ => none }
def fnExactBetweenRow : OpenClaim := { program := "ytbgacfjocjcffaa", sum := "39851089e7431417d77c42dbef95c6c623a6d22ab4791233d135e351e96e0dbb", func := "loop.example/g00051/laws.FnExactBetween", spec := "fnExactBetween", inPlace := ["math.Float64frombits"], unfollowed := true, recurses := true, apart := false }
def FnExactBetweenSaid : Prop := fnExactBetweenRow.holds Try.pinned (OpenSpec.ofChange fnExactBetweenSpec)

/-- ITS FALSE NEIGHBOUR: 'it returns false'. Refute it at one input. -/
def fnExactBetweenWrong : ChangeSpec := { name := "fnExactBetween", fn := fun _ => fun
  | [d1, d2, d3] => { results := [.lit (.bool false)], args := [d1, d2, d3] }
  | _ => none }
def FnExactBetweenWrongFalsely : Prop := fnExactBetweenRow.holds Try.pinned (OpenSpec.ofChange fnExactBetweenWrong)

/-- 'laws.FnExactHumidity': WHATEVER THE INPUT: true; the input reads as it did. -/
def fnExactHumiditySpec : ChangeSpec := { name := "fnExactHumidity", fn := fun _ => fun
  | [d1, d2] => { results := [.lit (.bool true)], args := [d1, d2] }
  | _ => none }
def fnExactHumidityRow : OpenClaim := { program := "ytbgacfjocjcffaa", sum := "39851089e7431417d77c42dbef95c6c623a6d22ab4791233d135e351e96e0dbb", func := "loop.example/g00051/laws.FnExactHumidity", spec := "fnExactHumidity", inPlace := ["math.Float64frombits"], apart := false }
def FnExactHumiditySaid : Prop := fnExactHumidityRow.holds Try.pinned (OpenSpec.ofChange fnExactHumiditySpec)

/-- ITS FALSE NEIGHBOUR: 'it returns false'. Refute it at one input. -/
def fnExactHumidityWrong : ChangeSpec := { name := "fnExactHumidity", fn := fun _ => fun
  | [d1, d2] => { results := [.lit (.bool false)], args := [d1, d2] }
  | _ => none }
def FnExactHumidityWrongFalsely : Prop := fnExactHumidityRow.holds Try.pinned (OpenSpec.ofChange fnExactHumidityWrong)

/-- 'laws.FnExactEnergy': WHATEVER THE INPUT: true; the input reads as it did. -/
def fnExactEnergySpec : ChangeSpec := { name := "fnExactEnergy", fn := fun _ => fun
  | [d] => { results := [.lit (.bool true)], args := [d] }
  | _ => none }
def fnExactEnergyRow : OpenClaim := { program := "ytbgacfjocjcffaa", sum := "39851089e7431417d77c42dbef95c6c623a6d22ab4791233d135e351e96e0dbb", func := "loop.example/g00051/laws.FnExactEnergy", spec := "fnExactEnergy", apart := false }
def FnExactEnergySaid : Prop := fnExactEnergyRow.holds Try.pinned (OpenSpec.ofChange fnExactEnergySpec)

/-- ITS FALSE NEIGHBOUR: 'it returns false'. Refute it at one input. -/
def fnExactEnergyWrong : ChangeSpec := { name := "fnExactEnergy", fn := fun _ => fun
  | [d] => { results := [.lit (.bool false)], args := [d] }
  | _ => none }
def FnExactEnergyWrongFalsely : Prop := fnExactEnergyRow.holds Try.pinned (OpenSpec.ofChange fnExactEnergyWrong)

/-- 'laws.FnExactSum': WHATEVER THE INPUT: true; the input reads as it did. -/
def fnExactSumSpec : ChangeSpec := { name := "fnExactSum", fn := fun _ => fun
  | [d] => { results := [.lit (.bool true)], args := [d] }
  | _ => none }
def fnExactSumRow : OpenClaim := { program := "ytbgacfjocjcffaa", sum := "39851089e7431417d77c42dbef95c6c623a6d22ab4791233d135e351e96e0dbb", func := "loop.example/g00051/laws.FnExactSum", spec := "fnExactSum", inPlace := ["math.Float64bits", "math.Float64frombits"], apart := false }
def FnExactSumSaid : Prop := fnExactSumRow.holds Try.pinned (OpenSpec.ofChange fnExactSumSpec)

/-- ITS FALSE NEIGHBOUR: 'it returns false'. Refute it at one input. -/
def fnExactSumWrong : ChangeSpec := { name := "fnExactSum", fn := fun _ => fun
  | [d] => { results := [.lit (.bool false)], args := [d] }
  | _ => none }
def FnExactSumWrongFalsely : Prop := fnExactSumRow.holds Try.pinned (OpenSpec.ofChange fnExactSumWrong)

/-- 'laws.FnExactMean': WHATEVER THE INPUT: true; the input reads as it did. -/
def fnExactMeanSpec : ChangeSpec := { name := "fnExactMean", fn := fun _ => fun
  | [d] => { results := [.lit (.bool true)], args := [d] }
  | _ => none }
def fnExactMeanRow : OpenClaim := { program := "ytbgacfjocjcffaa", sum := "39851089e7431417d77c42dbef95c6c623a6d22ab4791233d135e351e96e0dbb", func := "loop.example/g00051/laws.FnExactMean", spec := "fnExactMean", inPlace := ["math.Float64bits", "math.Float64frombits"], apart := false }
def FnExactMeanSaid : Prop := fnExactMeanRow.holds Try.pinned (OpenSpec.ofChange fnExactMeanSpec)

/-- ITS FALSE NEIGHBOUR: 'it returns false'. Refute it at one input. -/
def fnExactMeanWrong : ChangeSpec := { name := "fnExactMean", fn := fun _ => fun
  | [d] => { results := [.lit (.bool false)], args := [d] }
  | _ => none }
def FnExactMeanWrongFalsely : Prop := fnExactMeanRow.holds Try.pinned (OpenSpec.ofChange fnExactMeanWrong)

/-- 'laws.FnExactNearest': WHATEVER THE INPUT: true; the input reads as it did. -/
def fnExactNearestSpec : ChangeSpec := { name := "fnExactNearest", fn := fun _ => fun
  | [d] => { results := [.lit (.bool true)], args := [d] }
  | _ => none }
def fnExactNearestRow : OpenClaim := { program := "ytbgacfjocjcffaa", sum := "39851089e7431417d77c42dbef95c6c623a6d22ab4791233d135e351e96e0dbb", func := "loop.example/g00051/laws.FnExactNearest", spec := "fnExactNearest", inPlace := ["math.Float64bits", "math.Float64frombits", "math.RoundToEven"], apart := false }
def FnExactNearestSaid : Prop := fnExactNearestRow.holds Try.pinned (OpenSpec.ofChange fnExactNearestSpec)

/-- ITS FALSE NEIGHBOUR: 'it returns false'. Refute it at one input. -/
def fnExactNearestWrong : ChangeSpec := { name := "fnExactNearest", fn := fun _ => fun
  | [d] => { results := [.lit (.bool false)], args := [d] }
  | _ => none }
def FnExactNearestWrongFalsely : Prop := fnExactNearestRow.holds Try.pinned (OpenSpec.ofChange fnExactNearestWrong)

/-- 'laws.FnExactHighs': WHATEVER THE INPUT: true; the input reads as it did. -/
def fnExactHighsSpec : ChangeSpec := { name := "fnExactHighs", fn := fun _ => fun
  | [d] => { results := [.lit (.bool true)], args := [d] }
  | _ => none }
def fnExactHighsRow : OpenClaim := { program := "ytbgacfjocjcffaa", sum := "39851089e7431417d77c42dbef95c6c623a6d22ab4791233d135e351e96e0dbb", func := "loop.example/g00051/laws.FnExactHighs", spec := "fnExactHighs", apart := false }
def FnExactHighsSaid : Prop := fnExactHighsRow.holds Try.pinned (OpenSpec.ofChange fnExactHighsSpec)

/-- ITS FALSE NEIGHBOUR: 'it returns false'. Refute it at one input. -/
def fnExactHighsWrong : ChangeSpec := { name := "fnExactHighs", fn := fun _ => fun
  | [d] => { results := [.lit (.bool false)], args := [d] }
  | _ => none }
def FnExactHighsWrongFalsely : Prop := fnExactHighsRow.holds Try.pinned (OpenSpec.ofChange fnExactHighsWrong)

/-- 'laws.FnExactDewOf': WHATEVER THE INPUT: true; the input reads as it did. -/
def fnExactDewOfSpec : ChangeSpec := { name := "fnExactDewOf", fn := fun _ => fun
  | [d1, d2] => { results := [.lit (.bool true)], args := [d1, d2] }
  | _ => none }
def fnExactDewOfRow : OpenClaim := { program := "ytbgacfjocjcffaa", sum := "39851089e7431417d77c42dbef95c6c623a6d22ab4791233d135e351e96e0dbb", func := "loop.example/g00051/laws.FnExactDewOf", spec := "fnExactDewOf", inPlace := ["math.Float64frombits", "math.Float64bits"], apart := false }
def FnExactDewOfSaid : Prop := fnExactDewOfRow.holds Try.pinned (OpenSpec.ofChange fnExactDewOfSpec)

/-- ITS FALSE NEIGHBOUR: 'it returns false'. Refute it at one input. -/
def fnExactDewOfWrong : ChangeSpec := { name := "fnExactDewOf", fn := fun _ => fun
  | [d1, d2] => { results := [.lit (.bool false)], args := [d1, d2] }
  | _ => none }
def FnExactDewOfWrongFalsely : Prop := fnExactDewOfRow.holds Try.pinned (OpenSpec.ofChange fnExactDewOfWrong)

/-- 'laws.FnExactAscentOk': WHATEVER THE INPUT: true; the input reads as it did. -/
def fnExactAscentOkSpec : ChangeSpec := { name := "fnExactAscentOk", fn := fun _ => fun
  | [d] => { results := [.lit (.bool true)], args := [d] }
  | _ => none }
def fnExactAscentOkRow : OpenClaim := { program := "ytbgacfjocjcffaa", sum := "39851089e7431417d77c42dbef95c6c623a6d22ab4791233d135e351e96e0dbb", func := "loop.example/g00051/laws.FnExactAscentOk", spec := "fnExactAscentOk", inPlace := ["math.Float64bits", "math.Float64frombits"], apart := false }
def FnExactAscentOkSaid : Prop := fnExactAscentOkRow.holds Try.pinned (OpenSpec.ofChange fnExactAscentOkSpec)

/-- ITS FALSE NEIGHBOUR: 'it returns false'. Refute it at one input. -/
def fnExactAscentOkWrong : ChangeSpec := { name := "fnExactAscentOk", fn := fun _ => fun
  | [d] => { results := [.lit (.bool false)], args := [d] }
  | _ => none }
def FnExactAscentOkWrongFalsely : Prop := fnExactAscentOkRow.holds Try.pinned (OpenSpec.ofChange fnExactAscentOkWrong)

/- THE SECOND FORM. 'bulk': how many values and letters a reading holds, each counted each time it is reached (what is shared counts as often as it is met; a slice's spare places count too). A statement '..UptoSaid' is the law's where the arguments, and the package variables that the reading takes, are together of bulk at most 1048576: NARROWER than '..Said'. Prove '..Said' where nothing that the law and all that it calls make is longer than what came in: it says more and counts as full. Else prove '..UptoSaid'. A law counts once. -/
mutual
def uptoBulk {H : Type} : DataW H → Nat
  | .lit (.string bytes) => bytes.length + 1
  | .lit _ => 1
  | .nil => 1
  | .ptr d => uptoBulk d + 1
  | .slice elems spare => uptoBulkAll elems + uptoBulkAll spare + 1
  | .agg parts => uptoBulkAll parts + 1
  | .iface _ d => uptoBulk d + 1
  | .map entries => uptoBulkEntries entries + 1
  | .held _ => 1
def uptoBulkAll {H : Type} : List (DataW H) → Nat
  | [] => 0
  | d :: r => uptoBulk d + uptoBulkAll r
def uptoBulkEntries {H : Type} : List (Lit × DataW H) → Nat
  | [] => 0
  | x :: r => uptoBulkEntry x + uptoBulkEntries r
def uptoBulkEntry {H : Type} : Lit × DataW H → Nat
  | (.string bytes, d) => bytes.length + uptoBulk d + 1
  | (_, d) => uptoBulk d + 1
 end
def uptoSmall : (H : Type) → List (DataW H) → Bool := fun _ ds => decide (uptoBulkAll ds ≤ 1048576)
def OpenSpec.upto (s : _root_.Go.ChangeSpec) : _root_.Go.OpenSpec := { _root_.Go.OpenSpec.ofChange s with cond := some uptoSmall }

/-- 'laws.FnExactSame', WHERE WHAT IT READS IS OF BULK AT MOST 1048576: true; the input reads as it did. -/
def fnExactSameUptoRow : OpenClaim := { program := "ytbgacfjocjcffaa", sum := "39851089e7431417d77c42dbef95c6c623a6d22ab4791233d135e351e96e0dbb", func := "loop.example/g00051/laws.FnExactSame", spec := "fnExactSame", inPlace := ["math.Float64bits"], apart := false, narrowed := true }
def FnExactSameUptoSaid : Prop := fnExactSameUptoRow.holds Try.pinned (OpenSpec.upto fnExactSameSpec)

/-- 'laws.FnExactKnown', WHERE WHAT IT READS IS OF BULK AT MOST 1048576: true; the input reads as it did. -/
def fnExactKnownUptoRow : OpenClaim := { program := "ytbgacfjocjcffaa", sum := "39851089e7431417d77c42dbef95c6c623a6d22ab4791233d135e351e96e0dbb", func := "loop.example/g00051/laws.FnExactKnown", spec := "fnExactKnown", inPlace := ["math.Float64bits", "math.Float64frombits"], apart := false, narrowed := true }
def FnExactKnownUptoSaid : Prop := fnExactKnownUptoRow.holds Try.pinned (OpenSpec.upto fnExactKnownSpec)

/-- 'laws.FnExactConjPair', WHERE WHAT IT READS IS OF BULK AT MOST 1048576: true; the input reads as it did. -/
def fnExactConjPairUptoRow : OpenClaim := { program := "ytbgacfjocjcffaa", sum := "39851089e7431417d77c42dbef95c6c623a6d22ab4791233d135e351e96e0dbb", func := "loop.example/g00051/laws.FnExactConjPair", spec := "fnExactConjPair", apart := false, narrowed := true }
def FnExactConjPairUptoSaid : Prop := fnExactConjPairUptoRow.holds Try.pinned (OpenSpec.upto fnExactConjPairSpec)

/-- 'laws.FnExactAddPair', WHERE WHAT IT READS IS OF BULK AT MOST 1048576: true; the input reads as it did. -/
def fnExactAddPairUptoRow : OpenClaim := { program := "ytbgacfjocjcffaa", sum := "39851089e7431417d77c42dbef95c6c623a6d22ab4791233d135e351e96e0dbb", func := "loop.example/g00051/laws.FnExactAddPair", spec := "fnExactAddPair", apart := false, narrowed := true }
def FnExactAddPairUptoSaid : Prop := fnExactAddPairUptoRow.holds Try.pinned (OpenSpec.upto fnExactAddPairSpec)

/-- 'laws.FnExactMulPair', WHERE WHAT IT READS IS OF BULK AT MOST 1048576: true; the input reads as it did. -/
def fnExactMulPairUptoRow : OpenClaim := { program := "ytbgacfjocjcffaa", sum := "39851089e7431417d77c42dbef95c6c623a6d22ab4791233d135e351e96e0dbb", func := "loop.example/g00051/laws.FnExactMulPair", spec := "fnExactMulPair", apart := false, narrowed := true }
def FnExactMulPairUptoSaid : Prop := fnExactMulPairUptoRow.holds Try.pinned (OpenSpec.upto fnExactMulPairSpec)

/-- 'laws.FnExactVapour', WHERE WHAT IT READS IS OF BULK AT MOST 1048576: true; the input reads as it did. -/
def fnExactVapourUptoRow : OpenClaim := { program := "ytbgacfjocjcffaa", sum := "39851089e7431417d77c42dbef95c6c623a6d22ab4791233d135e351e96e0dbb", func := "loop.example/g00051/laws.FnExactVapour", spec := "fnExactVapour", inPlace := ["math.Float64frombits"], apart := false, narrowed := true }
def FnExactVapourUptoSaid : Prop := fnExactVapourUptoRow.holds Try.pinned (OpenSpec.upto fnExactVapourSpec)

/-- 'laws.FnExactBetween', WHERE WHAT IT READS IS OF BULK AT MOST 1048576: true; the input reads as it did. -/
def fnExactBetweenUptoRow : OpenClaim := { program := "ytbgacfjocjcffaa", sum := "39851089e7431417d77c42dbef95c6c623a6d22ab4791233d135e351e96e0dbb", func := "loop.example/g00051/laws.FnExactBetween", spec := "fnExactBetween", inPlace := ["math.Float64frombits"], unfollowed := true, recurses := true, apart := false, narrowed := true }
def FnExactBetweenUptoSaid : Prop := fnExactBetweenUptoRow.holds Try.pinned (OpenSpec.upto fnExactBetweenSpec)

/-- 'laws.FnExactHumidity', WHERE WHAT IT READS IS OF BULK AT MOST 1048576: true; the input reads as it did. -/
def fnExactHumidityUptoRow : OpenClaim := { program := "ytbgacfjocjcffaa", sum := "39851089e7431417d77c42dbef95c6c623a6d22ab4791233d135e351e96e0dbb", func := "loop.example/g00051/laws.FnExactHumidity", spec := "fnExactHumidity", inPlace := ["math.Float64frombits"], apart := false, narrowed := true }
def FnExactHumidityUptoSaid : Prop := fnExactHumidityUptoRow.holds Try.pinned (OpenSpec.upto fnExactHumiditySpec)

/-- 'laws.FnExactEnergy', WHERE WHAT IT READS IS OF BULK AT MOST 1048576: true; the input reads as it did. -/
def fnExactEnergyUptoRow : OpenClaim := { program := "ytbgacfjocjcffaa", sum := "39851089e7431417d77c42dbef95c6c623a6d22ab4791233d135e351e96e0dbb", func := "loop.example/g00051/laws.FnExactEnergy", spec := "fnExactEnergy", apart := false, narrowed := true }
def FnExactEnergyUptoSaid : Prop := fnExactEnergyUptoRow.holds Try.pinned (OpenSpec.upto fnExactEnergySpec)

/-- 'laws.FnExactSum', WHERE WHAT IT READS IS OF BULK AT MOST 1048576: true; the input reads as it did. -/
def fnExactSumUptoRow : OpenClaim := { program := "ytbgacfjocjcffaa", sum := "39851089e7431417d77c42dbef95c6c623a6d22ab4791233d135e351e96e0dbb", func := "loop.example/g00051/laws.FnExactSum", spec := "fnExactSum", inPlace := ["math.Float64bits", "math.Float64frombits"], apart := false, narrowed := true }
def FnExactSumUptoSaid : Prop := fnExactSumUptoRow.holds Try.pinned (OpenSpec.upto fnExactSumSpec)

/-- 'laws.FnExactMean', WHERE WHAT IT READS IS OF BULK AT MOST 1048576: true; the input reads as it did. -/
def fnExactMeanUptoRow : OpenClaim := { program := "ytbgacfjocjcffaa", sum := "39851089e7431417d77c42dbef95c6c623a6d22ab4791233d135e351e96e0dbb", func := "loop.example/g00051/laws.FnExactMean", spec := "fnExactMean", inPlace := ["math.Float64bits", "math.Float64frombits"], apart := false, narrowed := true }
def FnExactMeanUptoSaid : Prop := fnExactMeanUptoRow.holds Try.pinned (OpenSpec.upto fnExactMeanSpec)

/-- 'laws.FnExactNearest', WHERE WHAT IT READS IS OF BULK AT MOST 1048576: true; the input reads as it did. -/
def fnExactNearestUptoRow : OpenClaim := { program := "ytbgacfjocjcffaa", sum := "39851089e7431417d77c42dbef95c6c623a6d22ab4791233d135e351e96e0dbb", func := "loop.example/g00051/laws.FnExactNearest", spec := "fnExactNearest", inPlace := ["math.Float64bits", "math.Float64frombits", "math.RoundToEven"], apart := false, narrowed := true }
def FnExactNearestUptoSaid : Prop := fnExactNearestUptoRow.holds Try.pinned (OpenSpec.upto fnExactNearestSpec)

/-- 'laws.FnExactHighs', WHERE WHAT IT READS IS OF BULK AT MOST 1048576: true; the input reads as it did. -/
def fnExactHighsUptoRow : OpenClaim := { program := "ytbgacfjocjcffaa", sum := "39851089e7431417d77c42dbef95c6c623a6d22ab4791233d135e351e96e0dbb", func := "loop.example/g00051/laws.FnExactHighs", spec := "fnExactHighs", apart := false, narrowed := true }
def FnExactHighsUptoSaid : Prop := fnExactHighsUptoRow.holds Try.pinned (OpenSpec.upto fnExactHighsSpec)

/-- 'laws.FnExactDewOf', WHERE WHAT IT READS IS OF BULK AT MOST 1048576: true; the input reads as it did. -/
def fnExactDewOfUptoRow : OpenClaim := { program := "ytbgacfjocjcffaa", sum := "39851089e7431417d77c42dbef95c6c623a6d22ab4791233d135e351e96e0dbb", func := "loop.example/g00051/laws.FnExactDewOf", spec := "fnExactDewOf", inPlace := ["math.Float64frombits", "math.Float64bits"], apart := false, narrowed := true }
def FnExactDewOfUptoSaid : Prop := fnExactDewOfUptoRow.holds Try.pinned (OpenSpec.upto fnExactDewOfSpec)

/-- 'laws.FnExactAscentOk', WHERE WHAT IT READS IS OF BULK AT MOST 1048576: true; the input reads as it did. -/
def fnExactAscentOkUptoRow : OpenClaim := { program := "ytbgacfjocjcffaa", sum := "39851089e7431417d77c42dbef95c6c623a6d22ab4791233d135e351e96e0dbb", func := "loop.example/g00051/laws.FnExactAscentOk", spec := "fnExactAscentOk", inPlace := ["math.Float64bits", "math.Float64frombits"], apart := false, narrowed := true }
def FnExactAscentOkUptoSaid : Prop := fnExactAscentOkUptoRow.holds Try.pinned (OpenSpec.upto fnExactAscentOkSpec)

end Rows
end Go.Proofs.Ytbgacfjocjcffaa
