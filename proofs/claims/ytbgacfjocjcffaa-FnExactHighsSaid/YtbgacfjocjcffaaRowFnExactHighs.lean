/-
  The statement 'FnExactHighs' of the seat, out of the contract of the law's function: the row opened, the walk's contract taken, the row shut.
  Conditions: none beyond the row's own.
-/
import Derived.Test.YtbgacfjocjcffaaRows
import Derived.Test.YtbgacfjocjcffaaFi
import Derived.WalkKit
import Derived.ProofKit
import Derived.OpenShut
import Derived.ShutString
import Derived.ChangeOld
import Derived.Below
import Derived.SizedLaws
import Derived.ChangeArms
import Derived.Laws.Cover2
import Derived.Deep.Slices
import Derived.Deep.Fields
namespace Go.Proofs.Ytbgacfjocjcffaa.fnExactHighsRow
open Go.ChangeShapes Go.WideShapes Go.ChangeAt Go.RowKit Go.Deep
open Go.ChangeMaps (open_string shut_string)
set_option linter.unusedVariables false
theorem own : ownKnob Try.prog.godebug = none := by kernel_rfl
theorem laidOut : laidOutB Try.prog = true := by kernel_rfl
theorem trod_float {H : Type} {enc : TypeId × Value → H} {P : Program} {w : World} {base : Nat} {spare : Nat → Bool} {held : Bool} {fuel : Nat} {t : TypeId} {cs : List Value} {x : DataW H × List MemPlace} {k : FloatKind} (ht : P.underlying t = some (.float k)) (h : DataW.trod enc P w base spare held fuel t cs = some x) : ∃ n, cs = [.float k n] ∧ (Lit.float k n).wf = true := by
  cases fuel with
  | zero => simp [DataW.trod] at h
  | succ m =>
    match cs, h with
    | [], h => simp [DataW.trod, ht] at h
    | [v], h =>
      cases v <;> simp [DataW.trod, ht] at h
      rename_i k' b
      by_cases hk : k' = k
      · subst hk
        by_cases hw : (Lit.float k' b).wf = true
        · exact ⟨b, rfl, hw⟩
        · simp [hw] at h
      · simp [hk] at h
    | v :: u :: r, h => cases v <;> simp [DataW.trod, ht] at h
def IsRow (k : IntKind) (w : World) (a : Option Addr) (len cap : Nat) (zs : List Int) : Prop :=
  (a = none ∧ len = 0 ∧ cap = 0 ∧ zs = []) ∨
  ∃ x, a = some x ∧ len ≤ cap ∧ cap ≤ maxLen ∧ zs.length = cap ∧ (∀ i, i < zs.length → w.cell? (x.add i) = some (.int k (zs.getD i 0))) ∧ ∀ n ∈ zs, (Lit.int k n).wf = true
theorem open_floats {H : Type} {enc : TypeId × Value → H} {P : Program} {w : World} {base : Nat} {spare : Nat → Bool} {held : Bool} {t e : TypeId} {fuel : Nat} {cs : List Value} {x : DataW H × List MemPlace} (ht : P.underlying t = some (.slice e)) (he : P.underlying e = some (.float .f64))
    (hC : P.cellsOf e = 1) (h : DataW.trod enc P w base spare held fuel t cs = some x) :
    cs = [.slice none 0 0] ∨
    ∃ (a : Addr) (len cap : Nat), cs = [.slice (some a) len cap] ∧ len ≤ cap ∧ cap ≤ maxLen ∧ ∀ i, i < len → ∃ n, w.cell? (a.add i) = some (.float .f64 n) ∧ n < 18446744073709551616 := by
  rcases open_slice ht h with h0 | ⟨a, len, cap, m, n, D, Pl, hcs, hb, hl, hm, hmm, hx, hi⟩
  · exact .inl h0.1
  · refine .inr ⟨a, len, cap, hcs, hl, hm, fun i him => ?_⟩
    obtain ⟨cs', hc, ht'⟩ := hi i (by rw [hmm]; split <;> omega)
    rw [hC] at hc
    obtain ⟨k, hk, hw⟩ := trod_float he ht'
    obtain ⟨_, hcl, hat⟩ := World.cells?_some hc
    have h0 := hat 0 (by omega)
    rw [hk] at h0
    refine ⟨k, ?_, by simpa [Lit.wf] using hw⟩
    rw [Nat.mul_one] at h0
    exact h0
theorem floats_list {w : World} {a : Addr} {len : Nat} (hm : len ≤ maxLen) (h : ∀ i, i < len → ∃ n, w.cell? (a.add i) = some (.float .f64 n) ∧ n < 18446744073709551616) :
    ∃ l : List Nat, len = l.length ∧ Fl.flt.C w (some a) l.length l ∧ ∀ x ∈ l, x < 18446744073709551616 := by
  refine ⟨(List.range len).map fun i => if h' : i < len then (h i h').choose else 0, by simp, ⟨by simp, ?_, fun _ => ⟨a, rfl, fun j p hj => ?_⟩⟩, ?_⟩
  · have : maxLen ≤ 9223372036854775807 := by decide
    simp; omega
  · rw [List.getElem?_map] at hj
    by_cases hjl : j < len
    · rw [List.getElem?_range hjl, Option.map_some, dif_pos hjl] at hj
      cases hj
      refine ⟨[.float .f64 (h j hjl).choose], rfl, rfl, fun i u hu => ?_⟩
      match i, hu with
      | 0, hu => cases hu; exact (congrArg (fun q => w.cell? (a.add q)) (by show j * 1 + 0 = j; omega)).trans (h j hjl).choose_spec.1
      | i + 1, hu => cases hu
    · rw [List.getElem?_eq_none (by simp; omega)] at hj; cases hj
  · intro x hx
    obtain ⟨i, hi, rfl⟩ := List.mem_map.1 hx
    rw [dif_pos (List.mem_range.1 hi)]
    exact (h i (List.mem_range.1 hi)).choose_spec.2
set_option maxRecDepth 100000 in
theorem lifted (os : Os) (started : os.Started) (H : Type) (enc : TypeId × Value → H) :
    ReturnsInHanded {} Try.checked os 15 .any (Rows.fnExactHighsSpec.pre6 enc Try.prog Try.f15 Rows.fnExactHighsRow.domain false) (Rows.fnExactHighsSpec.post enc Try.prog Try.f15 false true false false) := by
  refine returnsInHanded_of_change_sized (C := Try.checked) own started (by kernel_rfl) Try.func15
    (ChangeSpec.witness6 (enc := enc) (C := Try.checked) false ⟨#[], #[.slice none 0 0], []⟩ 8 (by kernel_rfl) (by kernel_rfl) (by kernel_rfl) (by kernel_rfl)) ?_
  intro W base args ds gs before hval0 hW hcnd hsz0 _
  have hsz : (DataW.weightsEach Try.prog (Try.f15.params.toList ++ Rows.fnExactHighsSpec.plain.varTypes Try.prog) (ds ++ gs)).all (· ≤ reachBytes) = true := hsz0
  have hval : ∀ (j : Nat) t v, Try.f15.params[j]? = some t → args[j]? = some v → Value.okWide Try.prog W .any base t v := hval0
  have hW' := hW
  obtain ⟨p, q, hA0, hV, rfl, hfz, hnd⟩ := hW
  have hA : DataW.TrodAll enc Try.prog W 0 (fun _ => true) true Try.f15.params.toList args.toList ds p := hA0
  rw [Try.params15] at hA hval hsz
  obtain ⟨v0, vs0, d0, ds0, p0, q0, hargs, rfl, rfl, h0, r0⟩ := trodAll_cons hA
  obtain ⟨rfl, rfl, rfl⟩ := trodAll_nil r0
  obtain rfl : args = #[v0] := by cases args; simp_all
  obtain ⟨rfl, rfl⟩ := trodVars_none hV
  have k0 := h0
  have lt0 : ∀ x ∈ p0, x.block < W.heap.size := by obtain ⟨m, hm⟩ := k0; exact DataW.trod_lt m _ _ _ hm
  obtain ⟨a0, len0, cap0, rfl⟩ := okWide_slice Try.underlying49 (hval 0 49 v0 rfl rfl)
  obtain ⟨l0, rfl, hr0, hc0, hx0⟩ : ∃ l : List Nat, len0 = l.length ∧ Fl.flt.C W a0 l.length l ∧ l.length ≤ cap0 ∧ ∀ x ∈ l, x < 18446744073709551616 := by
    obtain ⟨fuel, hf⟩ := h0
    rcases open_floats Try.underlying49 Try.underlying22 (by kernel_rfl) hf with hcs | ⟨x, l, c, hcs, hl, hm, hcell⟩
    · simp [Value.cells] at hcs
      obtain ⟨rfl, rfl, rfl⟩ := hcs
      exact ⟨[], rfl, ⟨rfl, by simp, fun h => absurd h (by simp)⟩, Nat.zero_le _, by simp⟩
    · simp [Value.cells] at hcs
      obtain ⟨rfl, rfl, rfl⟩ := hcs
      obtain ⟨l, h1, h2, h3⟩ := floats_list (Nat.le_trans hl hm) hcell
      exact ⟨l, h1, h2, by omega, h3⟩
  clear hA0 hval0 hsz0 hsz
  refine (Fi.lawHighs _ _ l0 W hr0 hc0).mono fun e W' ⟨he, bel⟩ => ?_
  subst he
  exact ⟨_, rfl, _, _, _, [], _, [], hW', trodAll_mk1 (shut_bool Try.underlying4 _), (trodAll_cons_mk (Below.trod laidOut (by kernel_rfl) (of_decide_eq_true (by kernel_rfl)) k0 bel lt0) trodAll_mk0), rfl, bel.frame _, fun h => by cases h⟩
theorem over : Rows.fnExactHighsRow.holds Try.pinned (OpenSpec.ofChange Rows.fnExactHighsSpec) :=
  OpenClaim.holds_of_wide 15 Try.f15 rfl rfl rfl rfl rfl rfl rfl ⟨rfl, rfl, rfl, rfl, rfl⟩ rfl rfl rfl rfl rfl (by kernel_rfl) Try.func15 (by kernel_rfl)
    (of_decide_eq_true (by kernel_rfl)) (by unfold Func.isWrapper; first | (rw [if_pos (by decide +kernel)]; kernel_rfl) | (rw [if_neg (by decide +kernel)]; exact ⟨rfl, rfl⟩))
    (fun os started H enc _ => lifted os started H enc)
theorem proved : Rows.FnExactHighsSaid := over
#print axioms proved
end Go.Proofs.Ytbgacfjocjcffaa.fnExactHighsRow
namespace Go.Proofs.Ytbgacfjocjcffaa
theorem fnExactHighs_holds : Rows.FnExactHighsSaid := fnExactHighsRow.proved
end Go.Proofs.Ytbgacfjocjcffaa
