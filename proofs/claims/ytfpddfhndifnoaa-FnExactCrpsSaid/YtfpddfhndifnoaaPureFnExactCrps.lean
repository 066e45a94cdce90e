/- FnExactCrps over numbers and lists alone: the two scores are one. Conditions: none. -/
import Derived.Test.YtfpddfhndifnoaaPFnExactCrpsx2
namespace Go.Proofs.Ytfpddfhndifnoaa.Pure
open Go.RowKit Go.Proofs.Ytfpddfhndifnoaa.PFnExactCrps Go.Proofs.YtfpddfhndifnoaaW.PrintWords Go.Proofs.YtfpddfhndifnoaaW.PrintLast Go.Proofs.YtfpddfhndifnoaaW.PrintMore
set_option linter.unusedVariables false
set_option linter.unusedSimpArgs false

theorem rd_nat {xs : List Int} {i : Nat} (h : i < xs.length) : rd xs (i : Int) = xs[i] := by
  unfold rd; rw [Int.toNat_natCast, List.getD_eq_getElem?_getD, List.getElem?_eq_getElem h]; rfl
theorem wrap_nat {i : Nat} (h : i < 9223372036854775807) : wrap64 ((i : Int) + 1) = ((i + 1 : Nat) : Int) := by
  unfold wrap64; omega

theorem toInts_l0 (xs : List Int) (hn : xs.length ≤ 140737488351232) : ∀ (d k i : Nat) (ys : List Int), i + d = xs.length → d < k → ys.length = xs.length → ys.take i = xs.take i →
    laws_toInt64S.l0 k xs ys (i : Int) = some xs := by
  intro d
  induction d with
  | zero =>
    intro k i ys hi hk hl ht
    obtain ⟨k, rfl⟩ : ∃ m, k = m + 1 := ⟨k - 1, by omega⟩
    rw [List.take_of_length_le (by omega), List.take_of_length_le (by omega)] at ht
    simp only [laws_toInt64S.l0]
    rw [if_neg (by omega), ht]
  | succ d ih =>
    intro k i ys hi hk hl ht
    obtain ⟨k, rfl⟩ : ∃ m, k = m + 1 := ⟨k - 1, by omega⟩
    have hlt : i < xs.length := by omega
    simp only [laws_toInt64S.l0]
    rw [if_pos (by omega), if_pos (by omega), if_pos (by omega), rd_nat hlt, wrap_nat (by omega), Int.toNat_natCast]
    refine ih k (i + 1) _ (by omega) (by omega) (by rw [List.length_set]; exact hl) ?_
    rw [List.take_succ_eq_append_getElem (by rw [List.length_set]; omega), List.take_succ_eq_append_getElem hlt, List.take_set_of_le (Nat.le_refl i), ht, List.getElem_set_self]
theorem toInts (xs : List Int) (k : Nat) (hn : xs.length ≤ 1048576) (hk : xs.length < k) : laws_toInt64S.f k xs = some xs := by
  unfold laws_toInt64S.f
  rw [if_pos (by omega), if_pos (by omega)]
  exact toInts_l0 xs (by omega) xs.length k 0 _ (by omega) hk (by simp) rfl

theorem eqInts_l0 (xs : List Int) (hn : xs.length ≤ 140737488351232) : ∀ (d k i : Nat), i + d = xs.length → d < k → laws_eqInt64S.l0 k xs xs (i : Int) = some true := by
  intro d
  induction d with
  | zero =>
    intro k i hi hk
    obtain ⟨k, rfl⟩ : ∃ m, k = m + 1 := ⟨k - 1, by omega⟩
    simp only [laws_eqInt64S.l0]
    rw [if_neg (by omega)]
  | succ d ih =>
    intro k i hi hk
    obtain ⟨k, rfl⟩ : ∃ m, k = m + 1 := ⟨k - 1, by omega⟩
    simp only [laws_eqInt64S.l0]
    rw [if_pos (by omega), if_pos (by omega), if_pos (by omega), if_pos trivial, wrap_nat (by omega)]
    exact ih k (i + 1) (by omega) (by omega)
theorem eqInts (xs : List Int) (k : Nat) (hn : xs.length ≤ 140737488351232) (hk : xs.length < k) : laws_eqInt64S.f k xs xs = some true := by
  unfold laws_eqInt64S.f
  rw [if_pos rfl]
  exact eqInts_l0 xs hn xs.length k 0 (by omega) hk

def within (lo hi : Int) (xs : List Int) : Bool := xs.all fun x => decide (lo ≤ x) && decide (x ≤ hi)
theorem specIn (a b c : Int) : spec_l2In.f a b c = some (decide (b ≤ a) && decide (a ≤ c)) := by
  unfold spec_l2In.f; by_cases h : a ≥ b
  · rw [if_pos h, decide_eq_true (show b ≤ a from h), Bool.true_and]
  · rw [if_neg h, decide_eq_false (show ¬ b ≤ a from h), Bool.false_and]
theorem l15_l0 (lo hi : Int) (xs : List Int) (hn : xs.length ≤ 140737488351232) : ∀ (d k i : Nat), i + d = xs.length → d < k → spec_l15All.l0 k xs lo hi (i : Int) = some (within lo hi (xs.drop i)) := by
  intro d
  induction d with
  | zero =>
    intro k i hi' hk
    obtain ⟨k, rfl⟩ : ∃ m, k = m + 1 := ⟨k - 1, by omega⟩
    rw [List.drop_of_length_le (by omega)]
    simp only [spec_l15All.l0]
    rw [if_neg (by omega)]; rfl
  | succ d ih =>
    intro k i hi' hk
    obtain ⟨k, rfl⟩ : ∃ m, k = m + 1 := ⟨k - 1, by omega⟩
    have hlt : i < xs.length := by omega
    rw [List.drop_eq_getElem_cons hlt]
    simp only [spec_l15All.l0]
    rw [if_pos (by omega), if_pos (by omega), rd_nat hlt, wrap_nat (by omega), specIn, ih k (i + 1) (by omega) (by omega)]
    unfold within
    rw [List.all_cons]
    cases (decide (lo ≤ xs[i]) && decide (xs[i] ≤ hi)) <;> rfl
theorem l15 (lo hi n : Int) (xs : List Int) (k : Nat) (hn : xs.length ≤ 140737488351232) (hk : xs.length < k) : spec_l15All.f k xs n lo hi = some (decide ((xs.length : Int) = n) && within lo hi xs) := by
  unfold spec_l15All.f
  by_cases h : (xs.length : Int) = n
  · rw [if_pos h, decide_eq_true h, Bool.true_and]
    exact l15_l0 lo hi xs hn xs.length k 0 (by omega) hk
  · rw [if_neg h, decide_eq_false h, Bool.false_and]

theorem implIn (a b c : Int) : impl_in.f a b c = some (decide (b ≤ a) && decide (a ≤ c)) := by
  unfold impl_in.f; by_cases h : a ≥ b
  · rw [if_pos h, decide_eq_true (show b ≤ a from h), Bool.true_and]
  · rw [if_neg h, decide_eq_false (show ¬ b ≤ a from h), Bool.false_and]
theorem each_l0 (lo hi : Int) (xs : List Int) (hn : xs.length ≤ 140737488351232) : ∀ (d k i : Nat), i + d = xs.length → d < k → impl_each.l0 k lo hi xs (xs.length : Int) (i : Int) = some (within lo hi (xs.drop i)) := by
  intro d
  induction d with
  | zero =>
    intro k i hi' hk
    obtain ⟨k, rfl⟩ : ∃ m, k = m + 1 := ⟨k - 1, by omega⟩
    rw [List.drop_of_length_le (by omega)]
    simp only [impl_each.l0]
    rw [if_neg (by omega)]; rfl
  | succ d ih =>
    intro k i hi' hk
    obtain ⟨k, rfl⟩ : ∃ m, k = m + 1 := ⟨k - 1, by omega⟩
    have hlt : i < xs.length := by omega
    rw [List.drop_eq_getElem_cons hlt]
    simp only [impl_each.l0]
    rw [if_pos (by omega), if_pos (by omega), if_pos (by omega), rd_nat hlt, wrap_nat (by omega), implIn, ih k (i + 1) (by omega) (by omega)]
    unfold within
    rw [List.all_cons]
    cases (decide (lo ≤ xs[i]) && decide (xs[i] ≤ hi)) <;> rfl
theorem each (lo hi n : Int) (xs : List Int) (k : Nat) (hn : xs.length ≤ 140737488351232) (hk : xs.length < k) : impl_each.f k xs n lo hi = some (decide ((xs.length : Int) = n) && within lo hi xs) := by
  unfold impl_each.f
  by_cases h : (xs.length : Int) = n
  · rw [if_pos h, decide_eq_true h, Bool.true_and]
    exact each_l0 lo hi xs hn xs.length k 0 (by omega) hk
  · rw [if_neg h, decide_eq_false h, Bool.false_and]

theorem specOk (xs : List Int) (k : Nat) (hn : xs.length ≤ 1048576) (hk : xs.length < k) : spec_l18Ok.f k xs = some (decide ((1 : Int) ≤ xs.length) && decide ((xs.length : Int) ≤ 60) && within (-1000000) 1000000 xs) := by
  unfold spec_l18Ok.f
  rw [l15 _ _ _ _ _ (by omega) hk]
  by_cases h1 : (1 : Int) ≤ xs.length
  · by_cases h2 : (xs.length : Int) ≤ 60
    · simp [h1, h2]
    · simp [h1, h2]
  · simp [h1]
theorem implOk (xs : List Int) (k : Nat) (hn : xs.length ≤ 1048576) (hk : xs.length < k) : impl_membersOk.f k xs = some (decide ((1 : Int) ≤ xs.length) && decide ((xs.length : Int) ≤ 60) && within (-1000000) 1000000 xs) := by
  unfold impl_membersOk.f
  rw [each _ _ _ _ _ (by omega) hk, implIn]
  by_cases h1 : (1 : Int) ≤ xs.length
  · by_cases h2 : (xs.length : Int) ≤ 60
    · simp [h1, h2]
    · simp [h1, h2]
  · simp [h1]

def awy (a b : Int) : Int := mx (wrap64 (a - b)) (wrap64 (b - a))
def inner (a : Int) : List Int → Int → Int
  | [], s => s
  | b :: r, s => inner a r (wrap64 (s - awy a b))
def outer (xs : List Int) (n x : Int) : List Int → Int → Int
  | [], s => s
  | a :: r, s => outer xs n x r (inner a xs (wrap64 (s + wrap64 (wrap64 (2 * n) * awy a x))))
theorem spec_l1 (xs : List Int) (x n : Int) (i : Nat) (hi : i < xs.length) (hn : xs.length ≤ 1048576) : ∀ (d k j : Nat) (s : Int), j + d = xs.length → d < k →
    spec_Crps.l1 k xs x n s (i : Int) (j : Int) = spec_Crps.l0 (k - d - 1) xs x n (inner xs[i] (xs.drop j) s) ((i + 1 : Nat) : Int) := by
  intro d
  induction d with
  | zero =>
    intro k j s hj hk
    obtain ⟨k, rfl⟩ : ∃ m, k = m + 1 := ⟨k - 1, by omega⟩
    rw [List.drop_of_length_le (by omega)]
    simp only [spec_Crps.l1, inner]
    rw [if_neg (by omega), wrap_nat (by omega)]; rfl
  | succ d ih =>
    intro k j s hj hk
    obtain ⟨k, rfl⟩ : ∃ m, k = m + 1 := ⟨k - 1, by omega⟩
    have hlt : j < xs.length := by omega
    rw [List.drop_eq_getElem_cons hlt]
    simp only [spec_Crps.l1, inner]
    rw [if_pos (by omega), if_pos (by omega), if_pos (by omega), if_pos (by omega), rd_nat hlt, rd_nat hi, wrap_nat (by omega), ih k (j + 1) _ (by omega) (by omega), show k - d - 1 = k + 1 - (d + 1) - 1 from by omega]
    rfl
theorem spec_l0 (xs : List Int) (x n : Int) (hn : xs.length ≤ 1048576) : ∀ (d k i : Nat) (s : Int), i + d = xs.length → d * (xs.length + 2) < k →
    spec_Crps.l0 k xs x n s (i : Int) = some (outer xs n x (xs.drop i) s) := by
  intro d
  induction d with
  | zero =>
    intro k i s hi hk
    obtain ⟨k, rfl⟩ : ∃ m, k = m + 1 := ⟨k - 1, by omega⟩
    rw [List.drop_of_length_le (by omega)]
    simp only [spec_Crps.l0, outer]
    rw [if_neg (by omega)]
  | succ d ih =>
    intro k i s hi hk
    rw [Nat.succ_mul] at hk
    obtain ⟨k, rfl⟩ : ∃ m, k = m + 1 := ⟨k - 1, by omega⟩
    have hlt : i < xs.length := by omega
    rw [List.drop_eq_getElem_cons hlt]
    simp only [spec_Crps.l0, outer]
    have h1 := spec_l1 xs x n i hlt hn xs.length k 0
    rw [if_pos (by omega), if_pos (by omega), rd_nat hlt]
    refine (h1 _ (by omega) (by omega)).trans ?_
    rw [ih _ (i + 1) _ (by omega) (by omega)]
    rfl
theorem impl_l1 (xs : List Int) (x a : Int) (i : Nat) (hi : i < xs.length) (hn : xs.length ≤ 1048576) : ∀ (d k j : Nat) (s : Int), j + d = xs.length → d < k →
    impl_Crps.l1 k xs x s a xs (xs.length : Int) (i : Int) xs (xs.length : Int) (j : Int) = impl_Crps.l0 (k - d - 1) xs x (inner a (xs.drop j) s) xs (xs.length : Int) ((i + 1 : Nat) : Int) := by
  intro d
  induction d with
  | zero =>
    intro k j s hj hk
    obtain ⟨k, rfl⟩ : ∃ m, k = m + 1 := ⟨k - 1, by omega⟩
    rw [List.drop_of_length_le (by omega)]
    simp only [impl_Crps.l1, inner]
    rw [if_neg (by omega), wrap_nat (by omega)]; rfl
  | succ d ih =>
    intro k j s hj hk
    obtain ⟨k, rfl⟩ : ∃ m, k = m + 1 := ⟨k - 1, by omega⟩
    have hlt : j < xs.length := by omega
    rw [List.drop_eq_getElem_cons hlt]
    simp only [impl_Crps.l1, inner, impl_away.f, Option.bind_some]
    rw [if_pos (by omega), if_pos (by omega), if_pos (by omega), rd_nat hlt, wrap_nat (by omega), ih k (j + 1) _ (by omega) (by omega), show k - d - 1 = k + 1 - (d + 1) - 1 from by omega]
    rfl
theorem impl_l0 (xs : List Int) (x : Int) (hn : xs.length ≤ 1048576) : ∀ (d k i : Nat) (s : Int), i + d = xs.length → d * (xs.length + 2) < k →
    impl_Crps.l0 k xs x s xs (xs.length : Int) (i : Int) = some (outer xs (xs.length : Int) x (xs.drop i) s) := by
  intro d
  induction d with
  | zero =>
    intro k i s hi hk
    obtain ⟨k, rfl⟩ : ∃ m, k = m + 1 := ⟨k - 1, by omega⟩
    rw [List.drop_of_length_le (by omega)]
    simp only [impl_Crps.l0, outer]
    rw [if_neg (by omega)]
  | succ d ih =>
    intro k i s hi hk
    rw [Nat.succ_mul] at hk
    obtain ⟨k, rfl⟩ : ∃ m, k = m + 1 := ⟨k - 1, by omega⟩
    have hlt : i < xs.length := by omega
    rw [List.drop_eq_getElem_cons hlt]
    simp only [impl_Crps.l0, outer, impl_away.f, Option.bind_some]
    have h1 := impl_l1 xs x xs[i] i hlt hn xs.length k 0
    rw [if_pos (by omega), if_pos (by omega), if_pos (by omega), rd_nat hlt]
    refine (h1 _ (by omega) (by omega)).trans ?_
    rw [ih _ (i + 1) _ (by omega) (by omega)]
    rfl
theorem both (b : Int) (xs : List Int) (k : Nat) (hn : xs.length ≤ 1048576) (hk : xs.length * (xs.length + 2) < k) : spec_Crps.f (k + 1) xs b = impl_Crps.f (k + 1) xs b ∧ ∃ t, impl_Crps.f (k + 1) xs b = some t := by
  have hk' : xs.length < k + 1 := by
    have := Nat.le_mul_of_pos_right xs.length (show 0 < xs.length + 2 by omega); omega
  unfold spec_Crps.f impl_Crps.f
  have e1 := spec_l0 xs b (xs.length : Int) hn xs.length k 0 0 (by omega) hk
  have e2 := impl_l0 xs b hn xs.length k 0 0 (by omega) hk
  simp only [Int.natCast_zero, List.drop_zero] at e1 e2
  simp only [specOk xs (k + 1) hn hk', implOk xs (k + 1) hn hk', specIn, implIn, Option.bind_some, spec_Crps.j0, impl_Crps.j0]
  rw [e1, e2]
  split
  · split
    · exact ⟨rfl, _, rfl⟩
    · exact ⟨rfl, _, rfl⟩
  · exact ⟨rfl, _, rfl⟩

theorem FnExactCrps : laws_FnExactCrps.Pure := by
  intro l0 a1 _ _ _ _
  refine ⟨1100000000000 + 1, ?_⟩
  unfold laws_FnExactCrps.f
  by_cases hb : (l0.length : Int) > 1048576
  · rw [if_pos hb]
  · rw [if_neg hb]
    have hm : l0.length * (l0.length + 2) ≤ 1048576 * 1048578 := Nat.mul_le_mul (by omega) (by omega)
    obtain ⟨he, t, ht⟩ := both a1 l0 1100000000000 (by omega) (by omega)
    simp only [toInts l0 (1100000000000 + 1) (by omega) (by omega), Option.bind_some, he, ht, eqInts l0 (1100000000000 + 1) (by omega) (by omega), if_true]

end Go.Proofs.Ytfpddfhndifnoaa.Pure
