/- FnExactSlots over numbers and lists alone: the two lists of slots are one. Conditions: none. -/
import Derived.Test.YtfpddfhndifnoaaPFnExactSlotsx2
namespace Go.Proofs.Ytfpddfhndifnoaa.Pure
open Go.RowKit Go.Proofs.Ytfpddfhndifnoaa.PFnExactSlots Go.Proofs.YtfpddfhndifnoaaW.PrintWords Go.Proofs.YtfpddfhndifnoaaW.PrintLast Go.Proofs.YtfpddfhndifnoaaW.PrintMore
set_option linter.unusedVariables false
set_option linter.unusedSimpArgs false

theorem rd_nat {xs : List Int} {i : Nat} (h : i < xs.length) : rd xs (i : Int) = xs[i] := by
  unfold rd; rw [Int.toNat_natCast, List.getD_eq_getElem?_getD, List.getElem?_eq_getElem h]; rfl
theorem wrap_nat {i : Nat} (h : i < 9223372036854775807) : wrap64 ((i : Int) + 1) = ((i + 1 : Nat) : Int) := by
  unfold wrap64; omega

theorem eqInts_l0 (xs : List Int) (hn : xs.length ≤ 140737488351232) : ∀ (d k i : Nat), i + d = xs.length → d < k → laws_eqInt64S.l0 k xs xs (i : Int) = some true := by
  intro d
  induction d with
  | zero =>
    intro k i hi hk
    obtain ⟨k, rfl⟩ : ∃ m, k = m + 1 := ⟨k - 1, by omega⟩
    simp only [laws_eqInt64S.l0]
    rw [if_neg (by omega)]
  | succ d ih =>
    intro k i hi hk
    obtain ⟨k, rfl⟩ : ∃ m, k = m + 1 := ⟨k - 1, by omega⟩
    simp only [laws_eqInt64S.l0]
    rw [if_pos (by omega), if_pos (by omega), if_pos (by omega), if_pos trivial, wrap_nat (by omega)]
    exact ih k (i + 1) (by omega) (by omega)
theorem eqInts (xs : List Int) (k : Nat) (hn : xs.length ≤ 140737488351232) (hk : xs.length < k) : laws_eqInt64S.f k xs xs = some true := by
  unfold laws_eqInt64S.f
  rw [if_pos rfl]
  exact eqInts_l0 xs hn xs.length k 0 (by omega) hk

/-- the numbers from 1 on -/
def marks (n : Nat) : List Int := (List.range n).map fun (i : Nat) => ((i + 1 : Nat) : Int)
theorem marks_length (n : Nat) : (marks n).length = n := by simp [marks]
theorem marks_at {n i : Nat} (h : i < (marks n).length) : (marks n)[i] = ((i + 1 : Nat) : Int) := by simp [marks]
theorem mark_l0 (n : Nat) (hn : n ≤ 140737488351232) : ∀ (d k i : Nat) (ys : List Int), i + d = n → d < k → ys.length = n → ys.take i = (marks n).take i → laws_markInt64S.l0 k ys ((i + 1 : Nat) : Int) (i : Int) = some (((n + 1 : Nat) : Int), marks n) := by
  intro d
  induction d with
  | zero =>
    intro k i ys hi hk hl ht
    obtain ⟨k, rfl⟩ : ∃ m, k = m + 1 := ⟨k - 1, by omega⟩
    rw [List.take_of_length_le (by omega), List.take_of_length_le (by rw [marks_length]; omega)] at ht
    simp only [laws_markInt64S.l0]
    rw [if_neg (by omega), ht, show i = n from by omega]
  | succ d ih =>
    intro k i ys hi hk hl ht
    obtain ⟨k, rfl⟩ : ∃ m, k = m + 1 := ⟨k - 1, by omega⟩
    simp only [laws_markInt64S.l0]
    rw [if_pos (by omega), if_pos (by omega), wrap_nat (by omega), wrap_nat (by omega), Int.toNat_natCast]
    refine ih k (i + 1) _ (by omega) (by omega) (by rw [List.length_set]; exact hl) ?_
    rw [List.take_succ_eq_append_getElem (by rw [List.length_set]; omega), List.take_succ_eq_append_getElem (by rw [marks_length]; omega), List.take_set_of_le (Nat.le_refl i), ht, List.getElem_set_self, marks_at]
theorem mark (ys : List Int) (k : Nat) (hn : ys.length ≤ 140737488351232) (hk : ys.length < k) : laws_markInt64S.f k ys 1 = some (((ys.length + 1 : Nat) : Int), marks ys.length) :=
  mark_l0 ys.length hn ys.length k 0 ys (by omega) hk rfl rfl
theorem held_l0 (n : Nat) (hn : n ≤ 140737488351232) : ∀ (d k i : Nat), i + d = n → d < k → laws_heldInt64S.l0 k (marks n) ((i + 1 : Nat) : Int) (i : Int) = some ((n + 1 : Nat) : Int) := by
  intro d
  induction d with
  | zero =>
    intro k i hi hk
    obtain ⟨k, rfl⟩ : ∃ m, k = m + 1 := ⟨k - 1, by omega⟩
    simp only [laws_heldInt64S.l0]
    rw [if_neg (by rw [marks_length]; omega), show i = n from by omega]
  | succ d ih =>
    intro k i hi hk
    obtain ⟨k, rfl⟩ : ∃ m, k = m + 1 := ⟨k - 1, by omega⟩
    have hlt : i < (marks n).length := by rw [marks_length]; omega
    simp only [laws_heldInt64S.l0]
    rw [if_pos (by rw [marks_length]; omega), if_pos (by omega), rd_nat hlt, marks_at, if_pos rfl, wrap_nat (by omega), wrap_nat (by omega)]
    exact ih k (i + 1) (by omega) (by omega)
theorem held (n k : Nat) (hn : n ≤ 140737488351232) (hk : n < k) : laws_heldInt64S.f k (marks n) 1 = some ((n + 1 : Nat) : Int) := held_l0 n hn n k 0 (by omega) hk

theorem in_eq : impl_in.f = spec_l2In.f := by funext a b c; rfl
theorem specIn (a b c : Int) : spec_l2In.f a b c = some (decide (b ≤ a) && decide (a ≤ c)) := by
  unfold spec_l2In.f; by_cases h : a ≥ b
  · rw [if_pos h, decide_eq_true (show b ≤ a from h), Bool.true_and]
  · rw [if_neg h, decide_eq_false (show ¬ b ≤ a from h), Bool.false_and]

theorem time_eq : impl_isTime.f = spec_l2Time.f := by
  funext a
  unfold impl_isTime.f spec_l2Time.f
  rw [in_eq]
  unfold spec_l2In.f
  split <;> rfl
theorem span_eq : impl_spanOk.f = spec_l2SpanOk.f := by
  funext a b
  unfold impl_spanOk.f spec_l2SpanOk.f
  rw [time_eq]
theorem time_some (a : Int) : ∃ t, spec_l2Time.f a = some t := by unfold spec_l2Time.f; split <;> exact ⟨_, rfl⟩
theorem span_some (a b : Int) : ∃ t, spec_l2SpanOk.f a b = some t := by
  unfold spec_l2SpanOk.f
  obtain ⟨t1, h1⟩ := time_some a
  obtain ⟨t2, h2⟩ := time_some b
  rw [h1, h2]
  cases t1 <;> cases t2 <;> exact ⟨_, rfl⟩
theorem l0_eq (a b s : Int) : ∀ (k : Nat) (out : List Int) (t : Int), impl_Slots.l0 k s out t a b = spec_Slots.l0 k s out t a b := by
  intro k
  induction k with
  | zero => intro out t; rfl
  | succ k ih => intro out t; simp only [impl_Slots.l0, spec_Slots.l0, ih]
theorem l0_some (a b s : Int) : ∀ (d k : Nat) (out : List Int) (t : Int), out.length + d = 1000 → d < k → ∃ r, spec_Slots.l0 k s out t a b = some r ∧ r.length ≤ 1000 := by
  intro d
  induction d with
  | zero =>
    intro k out t ho hk
    obtain ⟨k, rfl⟩ : ∃ m, k = m + 1 := ⟨k - 1, by omega⟩
    simp only [spec_Slots.l0]
    rw [if_pos (show (out.length : Int) = 1000 by omega)]
    split
    · exact ⟨_, rfl, by simp⟩
    · exact ⟨_, rfl, by omega⟩
  | succ d ih =>
    intro k out t ho hk
    obtain ⟨k, rfl⟩ : ∃ m, k = m + 1 := ⟨k - 1, by omega⟩
    simp only [spec_Slots.l0]
    rw [if_neg (show ¬ (out.length : Int) = 1000 by omega), if_pos (show out.length < 17592186044416 by omega)]
    split
    · exact ih k _ _ (by rw [List.length_append, List.length_singleton]; omega) (by omega)
    · exact ⟨_, rfl, by omega⟩
theorem both (a b s : Int) (k : Nat) (hk : 1000 < k) : ∃ r, spec_Slots.f (k + 1) a b s = some r ∧ impl_Slots.f (k + 1) a b s = some r ∧ r.length ≤ 1000 := by
  unfold spec_Slots.f impl_Slots.f
  rw [span_eq, in_eq]
  obtain ⟨t, ht⟩ := span_some a b
  rw [ht]
  simp only [Option.bind_some, specIn, impl_Slots.j0, spec_Slots.j0, l0_eq]
  cases t with
  | false => exact ⟨[], rfl, rfl, by simp⟩
  | true =>
    simp only [if_true]
    cases h : (decide (1 ≤ s) && decide (s ≤ 525600)) with
    | false => exact ⟨[], rfl, rfl, by simp⟩
    | true =>
      rw [Bool.and_eq_true] at h
      have h1 := of_decide_eq_true h.1
      simp only [Bool.not_true, Bool.false_eq_true, if_false]
      rw [if_neg (by omega)]
      obtain ⟨r, hr, hl⟩ := l0_some a b s 1000 k [] (wrap64 (wrap64 (Int.tdiv (wrap64 (wrap64 (a + s) - 1)) s) * s)) (by simp) hk
      exact ⟨r, hr, hr, hl⟩
theorem FnExactSlots (a b s : Int) : ∃ k, laws_FnExactSlots.f k a b s = some true := by
  refine ⟨2000 + 1, ?_⟩
  obtain ⟨g, h1, h2, hl⟩ := both a b s 2000 (by omega)
  unfold laws_FnExactSlots.f laws_toSpan.f
  have ng : ¬ ((g.length + 1 : Nat) : Int) < 0 := by omega
  simp only [Option.bind_some, h1, h2, eqInts g (2000 + 1) (by omega) (by omega), if_true, mark g (2000 + 1) (by omega) (by omega), held g.length (2000 + 1) (by omega) (by omega), if_neg ng]

end Go.Proofs.Ytfpddfhndifnoaa.Pure
