/- FnExactSpell over numbers and lists alone: the two longest spells are one. Conditions: none. -/
import Derived.Test.YtfpddfhndifnoaaPFnExactSpellx2
namespace Go.Proofs.Ytfpddfhndifnoaa.Pure
open Go.RowKit Go.Proofs.Ytfpddfhndifnoaa.PFnExactSpell Go.Proofs.YtfpddfhndifnoaaW.PrintWords Go.Proofs.YtfpddfhndifnoaaW.PrintLast Go.Proofs.YtfpddfhndifnoaaW.PrintMore
set_option linter.unusedVariables false
set_option linter.unusedSimpArgs false

theorem rd_nat {xs : List Int} {i : Nat} (h : i < xs.length) : rd xs (i : Int) = xs[i] := by
  unfold rd; rw [Int.toNat_natCast, List.getD_eq_getElem?_getD, List.getElem?_eq_getElem h]; rfl
theorem wrap_nat {i : Nat} (h : i < 9223372036854775807) : wrap64 ((i : Int) + 1) = ((i + 1 : Nat) : Int) := by
  unfold wrap64; omega

theorem toInts_l0 (xs : List Int) (hn : xs.length ≤ 140737488351232) : ∀ (d k i : Nat) (ys : List Int), i + d = xs.length → d < k → ys.length = xs.length → ys.take i = xs.take i →
    laws_toInt64S.l0 k xs ys (i : Int) = some xs := by
  intro d
  induction d with
  | zero =>
    intro k i ys hi hk hl ht
    obtain ⟨k, rfl⟩ : ∃ m, k = m + 1 := ⟨k - 1, by omega⟩
    rw [List.take_of_length_le (by omega), List.take_of_length_le (by omega)] at ht
    simp only [laws_toInt64S.l0]
    rw [if_neg (by omega), ht]
  | succ d ih =>
    intro k i ys hi hk hl ht
    obtain ⟨k, rfl⟩ : ∃ m, k = m + 1 := ⟨k - 1, by omega⟩
    have hlt : i < xs.length := by omega
    simp only [laws_toInt64S.l0]
    rw [if_pos (by omega), if_pos (by omega), if_pos (by omega), rd_nat hlt, wrap_nat (by omega), Int.toNat_natCast]
    refine ih k (i + 1) _ (by omega) (by omega) (by rw [List.length_set]; exact hl) ?_
    rw [List.take_succ_eq_append_getElem (by rw [List.length_set]; omega), List.take_succ_eq_append_getElem hlt, List.take_set_of_le (Nat.le_refl i), ht, List.getElem_set_self]
theorem toInts (xs : List Int) (k : Nat) (hn : xs.length ≤ 1048576) (hk : xs.length < k) : laws_toInt64S.f k xs = some xs := by
  unfold laws_toInt64S.f
  rw [if_pos (by omega), if_pos (by omega)]
  exact toInts_l0 xs (by omega) xs.length k 0 _ (by omega) hk (by simp) rfl

theorem eqInts_l0 (xs : List Int) (hn : xs.length ≤ 140737488351232) : ∀ (d k i : Nat), i + d = xs.length → d < k → laws_eqInt64S.l0 k xs xs (i : Int) = some true := by
  intro d
  induction d with
  | zero =>
    intro k i hi hk
    obtain ⟨k, rfl⟩ : ∃ m, k = m + 1 := ⟨k - 1, by omega⟩
    simp only [laws_eqInt64S.l0]
    rw [if_neg (by omega)]
  | succ d ih =>
    intro k i hi hk
    obtain ⟨k, rfl⟩ : ∃ m, k = m + 1 := ⟨k - 1, by omega⟩
    simp only [laws_eqInt64S.l0]
    rw [if_pos (by omega), if_pos (by omega), if_pos (by omega), if_pos trivial, wrap_nat (by omega)]
    exact ih k (i + 1) (by omega) (by omega)
theorem eqInts (xs : List Int) (k : Nat) (hn : xs.length ≤ 140737488351232) (hk : xs.length < k) : laws_eqInt64S.f k xs xs = some true := by
  unfold laws_eqInt64S.f
  rw [if_pos rfl]
  exact eqInts_l0 xs hn xs.length k 0 (by omega) hk

def within (lo hi : Int) (xs : List Int) : Bool := xs.all fun x => decide (lo ≤ x) && decide (x ≤ hi)
theorem specIn (a b c : Int) : spec_l2In.f a b c = some (decide (b ≤ a) && decide (a ≤ c)) := by
  unfold spec_l2In.f; by_cases h : a ≥ b
  · rw [if_pos h, decide_eq_true (show b ≤ a from h), Bool.true_and]
  · rw [if_neg h, decide_eq_false (show ¬ b ≤ a from h), Bool.false_and]
theorem l15_l0 (lo hi : Int) (xs : List Int) (hn : xs.length ≤ 140737488351232) : ∀ (d k i : Nat), i + d = xs.length → d < k → spec_l15All.l0 k xs lo hi (i : Int) = some (within lo hi (xs.drop i)) := by
  intro d
  induction d with
  | zero =>
    intro k i hi' hk
    obtain ⟨k, rfl⟩ : ∃ m, k = m + 1 := ⟨k - 1, by omega⟩
    rw [List.drop_of_length_le (by omega)]
    simp only [spec_l15All.l0]
    rw [if_neg (by omega)]; rfl
  | succ d ih =>
    intro k i hi' hk
    obtain ⟨k, rfl⟩ : ∃ m, k = m + 1 := ⟨k - 1, by omega⟩
    have hlt : i < xs.length := by omega
    rw [List.drop_eq_getElem_cons hlt]
    simp only [spec_l15All.l0]
    rw [if_pos (by omega), if_pos (by omega), rd_nat hlt, wrap_nat (by omega), specIn, ih k (i + 1) (by omega) (by omega)]
    unfold within
    rw [List.all_cons]
    cases (decide (lo ≤ xs[i]) && decide (xs[i] ≤ hi)) <;> rfl
theorem l15 (lo hi n : Int) (xs : List Int) (k : Nat) (hn : xs.length ≤ 140737488351232) (hk : xs.length < k) : spec_l15All.f k xs n lo hi = some (decide ((xs.length : Int) = n) && within lo hi xs) := by
  unfold spec_l15All.f
  by_cases h : (xs.length : Int) = n
  · rw [if_pos h, decide_eq_true h, Bool.true_and]
    exact l15_l0 lo hi xs hn xs.length k 0 (by omega) hk
  · rw [if_neg h, decide_eq_false h, Bool.false_and]

theorem implIn (a b c : Int) : impl_in.f a b c = some (decide (b ≤ a) && decide (a ≤ c)) := by
  unfold impl_in.f; by_cases h : a ≥ b
  · rw [if_pos h, decide_eq_true (show b ≤ a from h), Bool.true_and]
  · rw [if_neg h, decide_eq_false (show ¬ b ≤ a from h), Bool.false_and]
theorem each_l0 (lo hi : Int) (xs : List Int) (hn : xs.length ≤ 140737488351232) : ∀ (d k i : Nat), i + d = xs.length → d < k → impl_each.l0 k lo hi xs (xs.length : Int) (i : Int) = some (within lo hi (xs.drop i)) := by
  intro d
  induction d with
  | zero =>
    intro k i hi' hk
    obtain ⟨k, rfl⟩ : ∃ m, k = m + 1 := ⟨k - 1, by omega⟩
    rw [List.drop_of_length_le (by omega)]
    simp only [impl_each.l0]
    rw [if_neg (by omega)]; rfl
  | succ d ih =>
    intro k i hi' hk
    obtain ⟨k, rfl⟩ : ∃ m, k = m + 1 := ⟨k - 1, by omega⟩
    have hlt : i < xs.length := by omega
    rw [List.drop_eq_getElem_cons hlt]
    simp only [impl_each.l0]
    rw [if_pos (by omega), if_pos (by omega), if_pos (by omega), rd_nat hlt, wrap_nat (by omega), implIn, ih k (i + 1) (by omega) (by omega)]
    unfold within
    rw [List.all_cons]
    cases (decide (lo ≤ xs[i]) && decide (xs[i] ≤ hi)) <;> rfl
theorem each (lo hi n : Int) (xs : List Int) (k : Nat) (hn : xs.length ≤ 140737488351232) (hk : xs.length < k) : impl_each.f k xs n lo hi = some (decide ((xs.length : Int) = n) && within lo hi xs) := by
  unfold impl_each.f
  by_cases h : (xs.length : Int) = n
  · rw [if_pos h, decide_eq_true h, Bool.true_and]
    exact each_l0 lo hi xs hn xs.length k 0 (by omega) hk
  · rw [if_neg h, decide_eq_false h, Bool.false_and]

theorem specOk (xs : List Int) (k : Nat) (hn : xs.length ≤ 1048576) (hk : xs.length < k) : spec_l19Ok.f k xs = some (decide ((1 : Int) ≤ xs.length) && decide ((xs.length : Int) ≤ 500) && within (-100000) 100000 xs) := by
  unfold spec_l19Ok.f
  rw [l15 _ _ _ _ _ (by omega) hk]
  by_cases h1 : (1 : Int) ≤ xs.length
  · by_cases h2 : (xs.length : Int) ≤ 500
    · simp [h1, h2]
    · simp [h1, h2]
  · simp [h1]
theorem implOk (xs : List Int) (k : Nat) (hn : xs.length ≤ 1048576) (hk : xs.length < k) : impl_seriesOk.f k xs = some (decide ((1 : Int) ≤ xs.length) && decide ((xs.length : Int) ≤ 500) && within (-100000) 100000 xs) := by
  unfold impl_seriesOk.f
  rw [each _ _ _ _ _ (by omega) hk, implIn]
  by_cases h1 : (1 : Int) ≤ xs.length
  · by_cases h2 : (xs.length : Int) ≤ 500
    · simp [h1, h2]
    · simp [h1, h2]
  · simp [h1]

/-- how many from the head on are at the level or above -/
def run (lv : Int) : List Int → Nat
  | [] => 0
  | x :: r => if x ≥ lv then run lv r + 1 else 0
theorem run_le (lv : Int) (xs : List Int) : run lv xs ≤ xs.length := by
  induction xs with
  | nil => exact Nat.le_refl _
  | cons x r ih => simp only [run, List.length_cons]; split <;> omega
def sp (lv : Int) : List Int → Int → Int → Int → Int × Int
  | [], _, a, m => (a, m)
  | x :: r, i, a, m => if (run lv (x :: r) : Int) > m then sp lv r (i + 1) i (run lv (x :: r)) else sp lv r (i + 1) a m
theorem sp_skip (lv : Int) (xs : List Int) : ∀ (i a m : Int), (run lv xs : Int) ≤ m → sp lv xs i a m = sp lv (xs.drop (run lv xs + 1)) (i + run lv xs + 1) a m := by
  induction xs with
  | nil => intro i a m _; rfl
  | cons x r ih =>
    intro i a m hm
    rw [sp, if_neg (by omega)]
    by_cases hx : x ≥ lv
    · have e : run lv (x :: r) = run lv r + 1 := by simp only [run]; rw [if_pos hx]
      rw [e] at hm ⊢
      rw [ih (i + 1) a m (by omega), List.drop_succ_cons, show i + 1 + (run lv r : Int) + 1 = i + ((run lv r + 1 : Nat) : Int) + 1 from by omega]
    · have e : run lv (x :: r) = 0 := by simp only [run]; rw [if_neg hx]
      rw [e, List.drop_succ_cons, List.drop_zero]
      simp
theorem spec_l1 (xs : List Int) (lv a m : Int) (i : Nat) (hn : xs.length ≤ 1048576) (hi : i < xs.length) : ∀ (d k c : Nat), i + c + d = xs.length → d < k →
    spec_Spell.l1 k xs lv a m (i : Int) (c : Int) = if ((c + run lv (xs.drop (i + c)) : Nat) : Int) > m then spec_Spell.l0 (k - run lv (xs.drop (i + c)) - 1) xs lv (i : Int) ((c + run lv (xs.drop (i + c)) : Nat) : Int) ((i + 1 : Nat) : Int) else spec_Spell.l0 (k - run lv (xs.drop (i + c)) - 1) xs lv a m ((i + 1 : Nat) : Int) := by
  intro d
  induction d with
  | zero =>
    intro k c hc hk
    obtain ⟨k, rfl⟩ : ∃ m, k = m + 1 := ⟨k - 1, by omega⟩
    have hw : wrap64 ((i : Int) + (c : Int)) = ((i + c : Nat) : Int) := by unfold wrap64; omega
    have e : run lv (xs.drop (i + c)) = 0 := by rw [List.drop_of_length_le (by omega)]; rfl
    rw [e]
    simp only [spec_Spell.l1, hw]
    rw [if_neg (by omega), wrap_nat (by omega)]
    rfl
  | succ d ih =>
    intro k c hc hk
    obtain ⟨k, rfl⟩ : ∃ m, k = m + 1 := ⟨k - 1, by omega⟩
    have hlt : i + c < xs.length := by omega
    have hw : wrap64 ((i : Int) + (c : Int)) = ((i + c : Nat) : Int) := by unfold wrap64; omega
    simp only [spec_Spell.l1, hw]
    rw [if_pos (by omega), if_pos (by omega), rd_nat hlt, wrap_nat (by omega), wrap_nat (by omega)]
    by_cases hx : xs[i + c] ≥ lv
    · have e : run lv (xs.drop (i + c)) = run lv (xs.drop (i + (c + 1))) + 1 := by
        rw [List.drop_eq_getElem_cons hlt]; simp only [run]; rw [if_pos hx, show i + (c + 1) = i + c + 1 from by omega]
      rw [if_pos hx, ih k (c + 1) (by omega) (by omega), e, show c + 1 + run lv (xs.drop (i + (c + 1))) = c + (run lv (xs.drop (i + (c + 1))) + 1) from by omega, show k - run lv (xs.drop (i + (c + 1))) - 1 = k + 1 - (run lv (xs.drop (i + (c + 1))) + 1) - 1 from by omega]
    · have e : run lv (xs.drop (i + c)) = 0 := by
        rw [List.drop_eq_getElem_cons hlt]; simp only [run]; rw [if_neg hx]
      rw [if_neg hx, e]; rfl
theorem spec_l0 (xs : List Int) (lv : Int) (hn : xs.length ≤ 1048576) : ∀ (d k i : Nat) (a m : Int), i + d = xs.length → d * (xs.length + 2) < k → spec_Spell.l0 k xs lv a m (i : Int) = some (sp lv (xs.drop i) (i : Int) a m) := by
  intro d
  induction d with
  | zero =>
    intro k i a m hi hk
    obtain ⟨k, rfl⟩ : ∃ m, k = m + 1 := ⟨k - 1, by omega⟩
    rw [List.drop_of_length_le (by omega)]
    simp only [spec_Spell.l0, sp]
    rw [if_neg (by omega)]
  | succ d ih =>
    intro k i a m hi hk
    rw [Nat.succ_mul] at hk
    obtain ⟨k, rfl⟩ : ∃ m, k = m + 1 := ⟨k - 1, by omega⟩
    have hlt : i < xs.length := by omega
    have h1 := spec_l1 xs lv a m i hn hlt (xs.length - i) k 0 (by omega) (by omega)
    have hr := run_le lv (xs.drop i)
    have hd : (xs.drop i).length ≤ xs.length := by rw [List.length_drop]; omega
    simp only [spec_Spell.l0]
    rw [if_pos (by omega)]
    refine h1.trans ?_
    simp only [Nat.add_zero, Nat.zero_add]
    rw [ih _ (i + 1) _ _ (by omega) (by omega), ih _ (i + 1) _ _ (by omega) (by omega), List.drop_eq_getElem_cons hlt, sp]
    rw [show ((i + 1 : Nat) : Int) = (i : Int) + 1 from by omega]
    split <;> rfl
theorem impl_l1 (xs : List Int) (lv a m : Int) (i : Nat) (hn : xs.length ≤ 1048576) : ∀ (d k j : Nat), i ≤ j → j + d = xs.length → d < k →
    impl_Spell.l1 k xs lv a m (i : Int) (j : Int) = if ((j + run lv (xs.drop j) - i : Nat) : Int) > m then impl_Spell.l0 (k - run lv (xs.drop j) - 1) xs lv (i : Int) ((j + run lv (xs.drop j) - i : Nat) : Int) ((j + run lv (xs.drop j) + 1 : Nat) : Int) else impl_Spell.l0 (k - run lv (xs.drop j) - 1) xs lv a m ((j + run lv (xs.drop j) + 1 : Nat) : Int) := by
  intro d
  induction d with
  | zero =>
    intro k j hij hj hk
    obtain ⟨k, rfl⟩ : ∃ m, k = m + 1 := ⟨k - 1, by omega⟩
    have hw : wrap64 ((j : Int) - (i : Int)) = ((j - i : Nat) : Int) := by unfold wrap64; omega
    have e : run lv (xs.drop j) = 0 := by rw [List.drop_of_length_le (by omega)]; rfl
    rw [e]
    simp only [impl_Spell.l1, hw]
    rw [if_neg (by omega), wrap_nat (by omega)]
    rfl
  | succ d ih =>
    intro k j hij hj hk
    obtain ⟨k, rfl⟩ : ∃ m, k = m + 1 := ⟨k - 1, by omega⟩
    have hlt : j < xs.length := by omega
    have hw : wrap64 ((j : Int) - (i : Int)) = ((j - i : Nat) : Int) := by unfold wrap64; omega
    simp only [impl_Spell.l1, hw]
    rw [if_pos (by omega), if_pos (by omega), rd_nat hlt, wrap_nat (by omega)]
    by_cases hx : xs[j] ≥ lv
    · have e : run lv (xs.drop j) = run lv (xs.drop (j + 1)) + 1 := by
        rw [List.drop_eq_getElem_cons hlt]; simp only [run]; rw [if_pos hx]
      rw [if_pos hx, ih k (j + 1) (by omega) (by omega) (by omega), e, show j + 1 + run lv (xs.drop (j + 1)) = j + (run lv (xs.drop (j + 1)) + 1) from by omega, show k - run lv (xs.drop (j + 1)) - 1 = k + 1 - (run lv (xs.drop (j + 1)) + 1) - 1 from by omega]
    · have e : run lv (xs.drop j) = 0 := by
        rw [List.drop_eq_getElem_cons hlt]; simp only [run]; rw [if_neg hx]
      rw [if_neg hx, e]; rfl
theorem impl_l0 (xs : List Int) (lv : Int) (hn : xs.length ≤ 1048576) : ∀ (d k i : Nat) (a m : Int), xs.length ≤ i + d → i ≤ xs.length + 1 → 0 ≤ m → 3 * d + 1 < k → impl_Spell.l0 k xs lv a m (i : Int) = some (sp lv (xs.drop i) (i : Int) a m) := by
  intro d
  induction d using Nat.strongRecOn with
  | _ d ih =>
    intro k i a m hi hi2 hm hk
    obtain ⟨k, rfl⟩ : ∃ m, k = m + 1 := ⟨k - 1, by omega⟩
    by_cases hlt : i < xs.length
    · have h1 := impl_l1 xs lv a m i hn (xs.length - i) k i (Nat.le_refl _) (by omega) (by omega)
      have hr := run_le lv (xs.drop i)
      rw [List.length_drop] at hr
      simp only [impl_Spell.l0]
      rw [if_pos (by omega)]
      refine h1.trans ?_
      have hc : i + run lv (xs.drop i) - i = run lv (xs.drop i) := by omega
      rw [hc, ih (d - (run lv (xs.drop i) + 1)) (by omega) _ _ _ _ (by omega) (by omega) (by omega) (by omega), ih (d - (run lv (xs.drop i) + 1)) (by omega) _ _ _ _ (by omega) (by omega) hm (by omega)]
      have hdrop : xs.drop (i + run lv (xs.drop i) + 1) = (xs.drop i).drop (run lv (xs.drop i) + 1) := by rw [List.drop_drop, show i + (run lv (xs.drop i) + 1) = i + run lv (xs.drop i) + 1 from by omega]
      rw [hdrop, show ((i + run lv (xs.drop i) + 1 : Nat) : Int) = (i : Int) + (run lv (xs.drop i) : Int) + 1 from by omega]
      by_cases hg : (run lv (xs.drop i) : Int) > m
      · rw [if_pos hg, ← sp_skip lv (xs.drop i) (i : Int) (i : Int) (run lv (xs.drop i) : Int) (Int.le_refl _)]
        conv => lhs; rw [List.drop_eq_getElem_cons hlt, sp]
        conv => rhs; rw [List.drop_eq_getElem_cons hlt, sp]
        rw [← List.drop_eq_getElem_cons hlt, if_neg (by omega), if_pos hg]
      · rw [if_neg hg, ← sp_skip lv (xs.drop i) (i : Int) a m (by omega)]
    · rw [List.drop_of_length_le (by omega)]
      simp only [impl_Spell.l0, sp]
      rw [if_neg (by omega)]
theorem both (b : Int) (xs : List Int) (k : Nat) (hn : xs.length ≤ 1048576) (hk : xs.length * (xs.length + 2) + xs.length + 2 < k) : ∃ t, spec_Spell.f k xs b = some t ∧ impl_Spell.f k xs b = some t := by
  have hk' : xs.length < k := by
    have := Nat.le_mul_of_pos_right xs.length (show 0 < xs.length + 2 by omega); omega
  have hk2 : 3 * xs.length + 1 < k := by
    have : xs.length * 2 ≤ xs.length * (xs.length + 2) := Nat.mul_le_mul_left _ (by omega)
    omega
  have e1 := spec_l0 xs b hn xs.length k 0 (-1) 0 (by omega) (by omega)
  have e2 := impl_l0 xs b hn xs.length k 0 (-1) 0 (by omega) (by omega) (by omega) hk2
  unfold spec_Spell.f impl_Spell.f
  simp only [specOk xs k hn hk', implOk xs k hn hk', Option.bind_some]
  split
  · exact ⟨_, e1, e2⟩
  · exact ⟨_, rfl, rfl⟩

theorem FnExactSpell : laws_FnExactSpell.Pure := by
  intro l0 a1 _ _ _ _
  refine ⟨1100000000000 + 1, ?_⟩
  unfold laws_FnExactSpell.f
  by_cases hb : (l0.length : Int) > 1048576
  · rw [if_pos hb]
  · rw [if_neg hb]
    have hm : l0.length * (l0.length + 2) ≤ 1048576 * 1048578 := Nat.mul_le_mul (by omega) (by omega)
    obtain ⟨t, he, ht⟩ := both a1 l0 (1100000000000 + 1) (by omega) (by omega)
    simp only [toInts l0 (1100000000000 + 1) (by omega) (by omega), Option.bind_some, he, ht, if_true, bne_self_eq_false, laws_FnExactSpell.j0, Bool.false_eq_true, if_false, toInts l0 1100000000000 (by omega) (by omega), eqInts l0 1100000000000 (by omega) (by omega)]

end Go.Proofs.Ytfpddfhndifnoaa.Pure
