/- FnExactReturns over numbers and lists alone: the two fractions are one. Conditions: none. -/
import Derived.Test.YtfpddfhndifnoabPFnExactReturnsx2
namespace Go.Proofs.Ytfpddfhndifnoab.Pure
open Go.RowKit Go.Proofs.Ytfpddfhndifnoab.PFnExactReturns Go.Proofs.YtfpddfhndifnoabW.PrintWords Go.Proofs.YtfpddfhndifnoabW.PrintLast Go.Proofs.YtfpddfhndifnoabW.PrintMore
set_option linter.unusedVariables false
set_option linter.unusedSimpArgs false

theorem rd_nat {xs : List Int} {i : Nat} (h : i < xs.length) : rd xs (i : Int) = xs[i] := by
  unfold rd; rw [Int.toNat_natCast, List.getD_eq_getElem?_getD, List.getElem?_eq_getElem h]; rfl
theorem wrap_nat {i : Nat} (h : i < 9223372036854775807) : wrap64 ((i : Int) + 1) = ((i + 1 : Nat) : Int) := by
  unfold wrap64; omega

theorem toInts_l0 (xs : List Int) (hn : xs.length ≤ 140737488351232) : ∀ (d k i : Nat) (ys : List Int), i + d = xs.length → d < k → ys.length = xs.length → ys.take i = xs.take i →
    laws_toInt64S.l0 k xs ys (i : Int) = some xs := by
  intro d
  induction d with
  | zero =>
    intro k i ys hi hk hl ht
    obtain ⟨k, rfl⟩ : ∃ m, k = m + 1 := ⟨k - 1, by omega⟩
    rw [List.take_of_length_le (by omega), List.take_of_length_le (by omega)] at ht
    simp only [laws_toInt64S.l0]
    rw [if_neg (by omega), ht]
  | succ d ih =>
    intro k i ys hi hk hl ht
    obtain ⟨k, rfl⟩ : ∃ m, k = m + 1 := ⟨k - 1, by omega⟩
    have hlt : i < xs.length := by omega
    simp only [laws_toInt64S.l0]
    rw [if_pos (by omega), if_pos (by omega), if_pos (by omega), rd_nat hlt, wrap_nat (by omega), Int.toNat_natCast]
    refine ih k (i + 1) _ (by omega) (by omega) (by rw [List.length_set]; exact hl) ?_
    rw [List.take_succ_eq_append_getElem (by rw [List.length_set]; omega), List.take_succ_eq_append_getElem hlt, List.take_set_of_le (Nat.le_refl i), ht, List.getElem_set_self]
theorem toInts (xs : List Int) (k : Nat) (hn : xs.length ≤ 1048576) (hk : xs.length < k) : laws_toInt64S.f k xs = some xs := by
  unfold laws_toInt64S.f
  rw [if_pos (by omega), if_pos (by omega)]
  exact toInts_l0 xs (by omega) xs.length k 0 _ (by omega) hk (by simp) rfl

theorem eqInts_l0 (xs : List Int) (hn : xs.length ≤ 140737488351232) : ∀ (d k i : Nat), i + d = xs.length → d < k → laws_eqInt64S.l0 k xs xs (i : Int) = some true := by
  intro d
  induction d with
  | zero =>
    intro k i hi hk
    obtain ⟨k, rfl⟩ : ∃ m, k = m + 1 := ⟨k - 1, by omega⟩
    simp only [laws_eqInt64S.l0]
    rw [if_neg (by omega)]
  | succ d ih =>
    intro k i hi hk
    obtain ⟨k, rfl⟩ : ∃ m, k = m + 1 := ⟨k - 1, by omega⟩
    simp only [laws_eqInt64S.l0]
    rw [if_pos (by omega), if_pos (by omega), if_pos (by omega), if_pos trivial, wrap_nat (by omega)]
    exact ih k (i + 1) (by omega) (by omega)
theorem eqInts (xs : List Int) (k : Nat) (hn : xs.length ≤ 140737488351232) (hk : xs.length < k) : laws_eqInt64S.f k xs xs = some true := by
  unfold laws_eqInt64S.f
  rw [if_pos rfl]
  exact eqInts_l0 xs hn xs.length k 0 (by omega) hk

def within (lo hi : Int) (xs : List Int) : Bool := xs.all fun x => decide (lo ≤ x) && decide (x ≤ hi)
theorem specIn (a b c : Int) : spec_l2In.f a b c = some (decide (b ≤ a) && decide (a ≤ c)) := by
  unfold spec_l2In.f; by_cases h : a ≥ b
  · rw [if_pos h, decide_eq_true (show b ≤ a from h), Bool.true_and]
  · rw [if_neg h, decide_eq_false (show ¬ b ≤ a from h), Bool.false_and]
theorem l15_l0 (lo hi : Int) (xs : List Int) (hn : xs.length ≤ 140737488351232) : ∀ (d k i : Nat), i + d = xs.length → d < k → spec_l15All.l0 k xs lo hi (i : Int) = some (within lo hi (xs.drop i)) := by
  intro d
  induction d with
  | zero =>
    intro k i hi' hk
    obtain ⟨k, rfl⟩ : ∃ m, k = m + 1 := ⟨k - 1, by omega⟩
    rw [List.drop_of_length_le (by omega)]
    simp only [spec_l15All.l0]
    rw [if_neg (by omega)]; rfl
  | succ d ih =>
    intro k i hi' hk
    obtain ⟨k, rfl⟩ : ∃ m, k = m + 1 := ⟨k - 1, by omega⟩
    have hlt : i < xs.length := by omega
    rw [List.drop_eq_getElem_cons hlt]
    simp only [spec_l15All.l0]
    rw [if_pos (by omega), if_pos (by omega), rd_nat hlt, wrap_nat (by omega), specIn, ih k (i + 1) (by omega) (by omega)]
    unfold within
    rw [List.all_cons]
    cases (decide (lo ≤ xs[i]) && decide (xs[i] ≤ hi)) <;> rfl
theorem l15 (lo hi n : Int) (xs : List Int) (k : Nat) (hn : xs.length ≤ 140737488351232) (hk : xs.length < k) : spec_l15All.f k xs n lo hi = some (decide ((xs.length : Int) = n) && within lo hi xs) := by
  unfold spec_l15All.f
  by_cases h : (xs.length : Int) = n
  · rw [if_pos h, decide_eq_true h, Bool.true_and]
    exact l15_l0 lo hi xs hn xs.length k 0 (by omega) hk
  · rw [if_neg h, decide_eq_false h, Bool.false_and]

theorem implIn (a b c : Int) : impl_in.f a b c = some (decide (b ≤ a) && decide (a ≤ c)) := by
  unfold impl_in.f; by_cases h : a ≥ b
  · rw [if_pos h, decide_eq_true (show b ≤ a from h), Bool.true_and]
  · rw [if_neg h, decide_eq_false (show ¬ b ≤ a from h), Bool.false_and]
theorem each_l0 (lo hi : Int) (xs : List Int) (hn : xs.length ≤ 140737488351232) : ∀ (d k i : Nat), i + d = xs.length → d < k → impl_each.l0 k lo hi xs (xs.length : Int) (i : Int) = some (within lo hi (xs.drop i)) := by
  intro d
  induction d with
  | zero =>
    intro k i hi' hk
    obtain ⟨k, rfl⟩ : ∃ m, k = m + 1 := ⟨k - 1, by omega⟩
    rw [List.drop_of_length_le (by omega)]
    simp only [impl_each.l0]
    rw [if_neg (by omega)]; rfl
  | succ d ih =>
    intro k i hi' hk
    obtain ⟨k, rfl⟩ : ∃ m, k = m + 1 := ⟨k - 1, by omega⟩
    have hlt : i < xs.length := by omega
    rw [List.drop_eq_getElem_cons hlt]
    simp only [impl_each.l0]
    rw [if_pos (by omega), if_pos (by omega), if_pos (by omega), rd_nat hlt, wrap_nat (by omega), implIn, ih k (i + 1) (by omega) (by omega)]
    unfold within
    rw [List.all_cons]
    cases (decide (lo ≤ xs[i]) && decide (xs[i] ≤ hi)) <;> rfl
theorem each (lo hi n : Int) (xs : List Int) (k : Nat) (hn : xs.length ≤ 140737488351232) (hk : xs.length < k) : impl_each.f k xs n lo hi = some (decide ((xs.length : Int) = n) && within lo hi xs) := by
  unfold impl_each.f
  by_cases h : (xs.length : Int) = n
  · rw [if_pos h, decide_eq_true h, Bool.true_and]
    exact each_l0 lo hi xs hn xs.length k 0 (by omega) hk
  · rw [if_neg h, decide_eq_false h, Bool.false_and]

theorem specOk (xs : List Int) (k : Nat) (hn : xs.length ≤ 1048576) (hk : xs.length < k) : spec_l19Ok.f k xs = some (decide ((1 : Int) ≤ xs.length) && decide ((xs.length : Int) ≤ 500) && within (-100000) 100000 xs) := by
  unfold spec_l19Ok.f
  rw [l15 _ _ _ _ _ (by omega) hk]
  by_cases h1 : (1 : Int) ≤ xs.length
  · by_cases h2 : (xs.length : Int) ≤ 500
    · simp [h1, h2]
    · simp [h1, h2]
  · simp [h1]
theorem implOk (xs : List Int) (k : Nat) (hn : xs.length ≤ 1048576) (hk : xs.length < k) : impl_seriesOk.f k xs = some (decide ((1 : Int) ≤ xs.length) && decide ((xs.length : Int) ≤ 500) && within (-100000) 100000 xs) := by
  unfold impl_seriesOk.f
  rw [each _ _ _ _ _ (by omega) hk, implIn]
  by_cases h1 : (1 : Int) ≤ xs.length
  · by_cases h2 : (xs.length : Int) ≤ 500
    · simp [h1, h2]
    · simp [h1, h2]
  · simp [h1]

theorem gcd_l0 : ∀ (b a k : Nat), a ≤ 4611686018427387904 → b ≤ 4611686018427387904 → b < k → impl_gcd.l0 k (a : Int) (b : Int) = some ((Nat.gcd a b : Nat) : Int) := by
  intro b
  induction b using Nat.strongRecOn with
  | _ b ih =>
    intro a k ha hb hk
    obtain ⟨k, rfl⟩ : ∃ m, k = m + 1 := ⟨k - 1, by omega⟩
    simp only [impl_gcd.l0]
    by_cases h0 : b = 0
    · subst h0
      rw [if_pos (by omega), Nat.gcd_zero_right]
      have : wrap64 (-(a : Int)) = -(a : Int) := by unfold wrap64; omega
      rw [this]; unfold mx
      rw [if_neg (by omega)]
    · rw [if_neg (by omega), ← Int.ofNat_tmod]
      have hm : a % b < b := Nat.mod_lt _ (by omega)
      rw [ih (a % b) hm b k hb (by omega) (by omega), Nat.gcd_comm a b, Nat.gcd_rec b a, Nat.gcd_comm b (a % b)]

def cn (lv : Int) : Bool → List Int → Int → Int
  | _, [], a => a
  | p, x :: r, a => cn lv (decide (x < lv)) r (if x ≥ lv ∧ p = true then wrap64 (a + 1) else a)
theorem cn_bound (lv : Int) : ∀ (xs : List Int) (p : Bool) (a : Int), 0 ≤ a → a + xs.length ≤ 1000000000 → 0 ≤ cn lv p xs a ∧ cn lv p xs a ≤ a + xs.length := by
  intro xs
  induction xs with
  | nil => intro p a h _; exact ⟨by simpa [cn] using h, by simp [cn]⟩
  | cons x r ih =>
    intro p a h hm
    simp only [List.length_cons] at hm
    have hw : wrap64 (a + 1) = a + 1 := by unfold wrap64; omega
    simp only [cn, hw, List.length_cons]
    split
    · have := ih (decide (x < lv)) (a + 1) (by omega) (by omega); omega
    · have := ih (decide (x < lv)) a (by omega) (by omega); omega
theorem pred_wrap {i : Nat} (h : i ≠ 0) (hi : i ≤ 140737488351232) : wrap64 ((i : Int) - 1) = ((i - 1 : Nat) : Int) := by unfold wrap64; omega
def before (xs : List Int) (lv : Int) (i : Nat) : Bool := decide (i = 0) || decide (rd xs ((i - 1 : Nat) : Int) < lv)
theorem before_next {xs : List Int} {lv : Int} {i : Nat} (h : i < xs.length) : before xs lv (i + 1) = decide (xs[i] < lv) := by
  unfold before
  rw [decide_eq_false (by omega), Bool.false_or, Nat.add_sub_cancel, rd_nat h]
theorem spec_l0 (xs : List Int) (lv : Int) (hn : xs.length ≤ 140737488351232) : ∀ (d k i : Nat) (a : Int), i + d = xs.length → d < k → spec_Returns.l0 k xs lv a (i : Int) = spec_Returns.l1 (k - d - 1) xs (cn lv (before xs lv i) (xs.drop i) a) (cn lv (before xs lv i) (xs.drop i) a) (xs.length : Int) := by
  intro d
  induction d with
  | zero =>
    intro k i a hi hk
    obtain ⟨k, rfl⟩ : ∃ m, k = m + 1 := ⟨k - 1, by omega⟩
    rw [List.drop_of_length_le (by omega)]
    simp only [spec_Returns.l0, cn]
    rw [if_neg (by omega)]; rfl
  | succ d ih =>
    intro k i a hi hk
    obtain ⟨k, rfl⟩ : ∃ m, k = m + 1 := ⟨k - 1, by omega⟩
    have hlt : i < xs.length := by omega
    have e : k + 1 - (d + 1) - 1 = k - d - 1 := by omega
    rw [List.drop_eq_getElem_cons hlt, e]
    simp only [spec_Returns.l0, cn]
    rw [← before_next hlt, if_pos (by omega), if_pos (by omega), rd_nat hlt, wrap_nat (by omega), ih k (i + 1) _ (by omega) (by omega), ih k (i + 1) _ (by omega) (by omega)]
    by_cases hx : xs[i] ≥ lv
    · rw [if_pos hx]
      by_cases h0 : i = 0
      · subst h0
        rw [if_pos (by omega), if_pos ⟨hx, rfl⟩]
      · rw [if_neg (by omega), pred_wrap h0 (by omega), if_pos (by omega), if_pos (by omega)]
        by_cases hb : rd xs ((i - 1 : Nat) : Int) < lv
        · rw [if_pos hb, if_pos ⟨hx, by unfold before; rw [decide_eq_true hb, Bool.or_true]⟩]
        · rw [if_neg hb, if_neg (by rintro ⟨_, h⟩; unfold before at h; rw [decide_eq_false hb, decide_eq_false h0] at h; cases h)]
    · rw [if_neg hx, if_neg (fun h => hx h.1)]
def last (xs : List Int) (n : Int) : Option (Int × Int) := if n = 0 then some (0, 1) else if ((Nat.gcd n.toNat xs.length : Nat) : Int) = 0 then none else some (wrap64 (Int.tdiv n ((Nat.gcd n.toNat xs.length : Nat) : Int)), wrap64 ((xs.length : Int) / ((Nat.gcd n.toNat xs.length : Nat) : Int)))
theorem impl_l0 (xs : List Int) (lv : Int) (hn : xs.length ≤ 1048576) : ∀ (d k i : Nat) (a : Int), i + d = xs.length → d + xs.length + 1 < k → 0 ≤ a → a + d ≤ 1000000 → impl_Returns.l0 k xs lv a xs (xs.length : Int) (i : Int) = last xs (cn lv (before xs lv i) (xs.drop i) a) := by
  intro d
  induction d with
  | zero =>
    intro k i a hi hk ha hb
    obtain ⟨k, rfl⟩ : ∃ m, k = m + 1 := ⟨k - 1, by omega⟩
    rw [List.drop_of_length_le (by omega)]
    simp only [impl_Returns.l0, cn, last]
    rw [if_neg (by omega)]
    obtain ⟨n, rfl⟩ := Int.eq_ofNat_of_zero_le ha
    have hg : impl_gcd.f k (n : Int) (xs.length : Int) = some ((Nat.gcd n xs.length : Nat) : Int) := gcd_l0 xs.length n k (by omega) (by omega) (by omega)
    rw [hg]; rfl
  | succ d ih =>
    intro k i a hi hk ha hb
    obtain ⟨k, rfl⟩ : ∃ m, k = m + 1 := ⟨k - 1, by omega⟩
    have hlt : i < xs.length := by omega
    have hw : wrap64 (a + 1) = a + 1 := by unfold wrap64; omega
    rw [List.drop_eq_getElem_cons hlt]
    simp only [impl_Returns.l0, cn, hw]
    rw [← before_next hlt, if_pos (by omega), if_pos (by omega), if_pos (by omega), rd_nat hlt, wrap_nat (by omega), ih k (i + 1) _ (by omega) (by omega) (by omega) (by omega), ih k (i + 1) _ (by omega) (by omega) (by omega) (by omega)]
    by_cases hx : xs[i] ≥ lv
    · rw [if_pos hx]
      by_cases h0 : i = 0
      · subst h0
        rw [if_pos (by omega), if_pos ⟨hx, rfl⟩]
      · rw [if_neg (by omega), pred_wrap h0 (by omega), if_pos (by omega), if_pos (by omega)]
        by_cases hb : rd xs ((i - 1 : Nat) : Int) < lv
        · rw [if_pos hb, if_pos ⟨hx, by unfold before; rw [decide_eq_true hb, Bool.or_true]⟩]
        · rw [if_neg hb, if_neg (by rintro ⟨_, h⟩; unfold before at h; rw [decide_eq_false hb, decide_eq_false h0] at h; cases h)]
    · rw [if_neg hx, if_neg (fun h => hx h.1)]
theorem spec_l1 (xs : List Int) (n : Int) (hn : xs.length ≤ 1048576) : ∀ (b a k : Nat), 0 < a + b → b < k → spec_Returns.l1 k xs n (a : Int) (b : Int) = some (wrap64 (Int.tdiv n ((Nat.gcd a b : Nat) : Int)), wrap64 ((xs.length : Int) / ((Nat.gcd a b : Nat) : Int))) := by
  intro b
  induction b using Nat.strongRecOn with
  | _ b ih =>
    intro a k hab hk
    obtain ⟨k, rfl⟩ : ∃ m, k = m + 1 := ⟨k - 1, by omega⟩
    simp only [spec_Returns.l1]
    by_cases h0 : b = 0
    · subst h0
      rw [if_neg (by omega), if_neg (by omega), Nat.gcd_zero_right]
    · rw [if_pos (by omega), if_neg (by omega), ← Int.ofNat_tmod]
      have hm : a % b < b := Nat.mod_lt _ (by omega)
      rw [ih (a % b) hm b k (by omega) (by omega), Nat.gcd_comm a b, Nat.gcd_rec b a, Nat.gcd_comm b (a % b)]
theorem both (b : Int) (xs : List Int) (k : Nat) (hn : xs.length ≤ 1048576) (hk : xs.length + xs.length + 1 < k) : ∃ t, spec_Returns.f k xs b = some t ∧ impl_Returns.f k xs b = some t := by
  unfold spec_Returns.f impl_Returns.f
  simp only [specOk xs k hn (by omega), implOk xs k hn (by omega), Option.bind_some]
  by_cases h1 : (1 : Int) ≤ xs.length
  · by_cases h2 : (xs.length : Int) ≤ 500
    · cases h3 : within (-100000) 100000 xs with
      | false => exact ⟨(0, 0), by simp, by simp⟩
      | true =>
        simp only [h1, h2, decide_true, Bool.and_self, if_true]
        have e1 := spec_l0 xs b (by omega) xs.length k 0 0 (by omega) (by omega)
        have e2 := impl_l0 xs b hn xs.length k 0 0 (by omega) (by omega) (by omega) (by omega)
        have hc := cn_bound b (xs.drop 0) (before xs b 0) 0 (by omega) (by rw [List.drop_zero]; omega)
        generalize cn b (before xs b 0) (xs.drop 0) 0 = c at *
        obtain ⟨n, rfl⟩ := Int.eq_ofNat_of_zero_le hc.1
        have e3 := spec_l1 xs (n : Int) hn xs.length n (k - xs.length - 1) (by omega) (by omega)
        refine ⟨_, e1.trans e3, e2.trans ?_⟩
        unfold last
        rw [Int.toNat_natCast]
        by_cases h0 : n = 0
        · subst h0
          rw [if_pos (by omega), Nat.gcd_zero_left, Int.ediv_self (by omega)]
          have : Int.tdiv ((0 : Nat) : Int) (xs.length : Int) = 0 := Int.zero_tdiv _
          rw [this, show wrap64 0 = 0 from by unfold wrap64; omega, show wrap64 1 = 1 from by unfold wrap64; omega]
        · have hg : 0 < Nat.gcd n xs.length := Nat.gcd_pos_of_pos_left _ (by omega)
          rw [if_neg (by omega), if_neg (by omega)]
    · exact ⟨(0, 0), by simp [h2], by simp [h2]⟩
  · exact ⟨(0, 0), by simp [h1], by simp [h1]⟩

theorem FnExactReturns : laws_FnExactReturns.Pure := by
  intro l0 a1 _ _ _ _
  refine ⟨2097160 + 1, ?_⟩
  unfold laws_FnExactReturns.f
  by_cases hb : (l0.length : Int) > 1048576
  · rw [if_pos hb]
  · rw [if_neg hb]
    obtain ⟨t, he, ht⟩ := both a1 l0 (2097160 + 1) (by omega) (by omega)
    simp only [toInts l0 (2097160 + 1) (by omega) (by omega), Option.bind_some, he, ht, if_true, bne_self_eq_false, laws_FnExactReturns.j0, Bool.false_eq_true, if_false, toInts l0 2097160 (by omega) (by omega), eqInts l0 2097160 (by omega) (by omega)]

end Go.Proofs.Ytfpddfhndifnoab.Pure
