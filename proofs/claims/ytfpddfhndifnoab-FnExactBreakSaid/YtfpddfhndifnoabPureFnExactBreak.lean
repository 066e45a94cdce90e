/- FnExactBreak over numbers and lists alone: the two breaks are one. Conditions: none. -/
import Derived.Test.YtfpddfhndifnoabPFnExactBreakx2
namespace Go.Proofs.Ytfpddfhndifnoab.Pure
open Go.RowKit Go.Proofs.Ytfpddfhndifnoab.PFnExactBreak Go.Proofs.YtfpddfhndifnoabW.PrintWords Go.Proofs.YtfpddfhndifnoabW.PrintLast Go.Proofs.YtfpddfhndifnoabW.PrintMore
set_option linter.unusedVariables false
set_option linter.unusedSimpArgs false

theorem rd_nat {xs : List Int} {i : Nat} (h : i < xs.length) : rd xs (i : Int) = xs[i] := by
  unfold rd; rw [Int.toNat_natCast, List.getD_eq_getElem?_getD, List.getElem?_eq_getElem h]; rfl
theorem wrap_nat {i : Nat} (h : i < 9223372036854775807) : wrap64 ((i : Int) + 1) = ((i + 1 : Nat) : Int) := by
  unfold wrap64; omega

theorem toInts_l0 (xs : List Int) (hn : xs.length ≤ 140737488351232) : ∀ (d k i : Nat) (ys : List Int), i + d = xs.length → d < k → ys.length = xs.length → ys.take i = xs.take i →
    laws_toInt64S.l0 k xs ys (i : Int) = some xs := by
  intro d
  induction d with
  | zero =>
    intro k i ys hi hk hl ht
    obtain ⟨k, rfl⟩ : ∃ m, k = m + 1 := ⟨k - 1, by omega⟩
    rw [List.take_of_length_le (by omega), List.take_of_length_le (by omega)] at ht
    simp only [laws_toInt64S.l0]
    rw [if_neg (by omega), ht]
  | succ d ih =>
    intro k i ys hi hk hl ht
    obtain ⟨k, rfl⟩ : ∃ m, k = m + 1 := ⟨k - 1, by omega⟩
    have hlt : i < xs.length := by omega
    simp only [laws_toInt64S.l0]
    rw [if_pos (by omega), if_pos (by omega), if_pos (by omega), rd_nat hlt, wrap_nat (by omega), Int.toNat_natCast]
    refine ih k (i + 1) _ (by omega) (by omega) (by rw [List.length_set]; exact hl) ?_
    rw [List.take_succ_eq_append_getElem (by rw [List.length_set]; omega), List.take_succ_eq_append_getElem hlt, List.take_set_of_le (Nat.le_refl i), ht, List.getElem_set_self]
theorem toInts (xs : List Int) (k : Nat) (hn : xs.length ≤ 1048576) (hk : xs.length < k) : laws_toInt64S.f k xs = some xs := by
  unfold laws_toInt64S.f
  rw [if_pos (by omega), if_pos (by omega)]
  exact toInts_l0 xs (by omega) xs.length k 0 _ (by omega) hk (by simp) rfl

theorem eqInts_l0 (xs : List Int) (hn : xs.length ≤ 140737488351232) : ∀ (d k i : Nat), i + d = xs.length → d < k → laws_eqInt64S.l0 k xs xs (i : Int) = some true := by
  intro d
  induction d with
  | zero =>
    intro k i hi hk
    obtain ⟨k, rfl⟩ : ∃ m, k = m + 1 := ⟨k - 1, by omega⟩
    simp only [laws_eqInt64S.l0]
    rw [if_neg (by omega)]
  | succ d ih =>
    intro k i hi hk
    obtain ⟨k, rfl⟩ : ∃ m, k = m + 1 := ⟨k - 1, by omega⟩
    simp only [laws_eqInt64S.l0]
    rw [if_pos (by omega), if_pos (by omega), if_pos (by omega), if_pos trivial, wrap_nat (by omega)]
    exact ih k (i + 1) (by omega) (by omega)
theorem eqInts (xs : List Int) (k : Nat) (hn : xs.length ≤ 140737488351232) (hk : xs.length < k) : laws_eqInt64S.f k xs xs = some true := by
  unfold laws_eqInt64S.f
  rw [if_pos rfl]
  exact eqInts_l0 xs hn xs.length k 0 (by omega) hk

def within (lo hi : Int) (xs : List Int) : Bool := xs.all fun x => decide (lo ≤ x) && decide (x ≤ hi)
theorem specIn (a b c : Int) : spec_l2In.f a b c = some (decide (b ≤ a) && decide (a ≤ c)) := by
  unfold spec_l2In.f; by_cases h : a ≥ b
  · rw [if_pos h, decide_eq_true (show b ≤ a from h), Bool.true_and]
  · rw [if_neg h, decide_eq_false (show ¬ b ≤ a from h), Bool.false_and]
theorem l15_l0 (lo hi : Int) (xs : List Int) (hn : xs.length ≤ 140737488351232) : ∀ (d k i : Nat), i + d = xs.length → d < k → spec_l15All.l0 k xs lo hi (i : Int) = some (within lo hi (xs.drop i)) := by
  intro d
  induction d with
  | zero =>
    intro k i hi' hk
    obtain ⟨k, rfl⟩ : ∃ m, k = m + 1 := ⟨k - 1, by omega⟩
    rw [List.drop_of_length_le (by omega)]
    simp only [spec_l15All.l0]
    rw [if_neg (by omega)]; rfl
  | succ d ih =>
    intro k i hi' hk
    obtain ⟨k, rfl⟩ : ∃ m, k = m + 1 := ⟨k - 1, by omega⟩
    have hlt : i < xs.length := by omega
    rw [List.drop_eq_getElem_cons hlt]
    simp only [spec_l15All.l0]
    rw [if_pos (by omega), if_pos (by omega), rd_nat hlt, wrap_nat (by omega), specIn, ih k (i + 1) (by omega) (by omega)]
    unfold within
    rw [List.all_cons]
    cases (decide (lo ≤ xs[i]) && decide (xs[i] ≤ hi)) <;> rfl
theorem l15 (lo hi n : Int) (xs : List Int) (k : Nat) (hn : xs.length ≤ 140737488351232) (hk : xs.length < k) : spec_l15All.f k xs n lo hi = some (decide ((xs.length : Int) = n) && within lo hi xs) := by
  unfold spec_l15All.f
  by_cases h : (xs.length : Int) = n
  · rw [if_pos h, decide_eq_true h, Bool.true_and]
    exact l15_l0 lo hi xs hn xs.length k 0 (by omega) hk
  · rw [if_neg h, decide_eq_false h, Bool.false_and]

theorem implIn (a b c : Int) : impl_in.f a b c = some (decide (b ≤ a) && decide (a ≤ c)) := by
  unfold impl_in.f; by_cases h : a ≥ b
  · rw [if_pos h, decide_eq_true (show b ≤ a from h), Bool.true_and]
  · rw [if_neg h, decide_eq_false (show ¬ b ≤ a from h), Bool.false_and]
theorem each_l0 (lo hi : Int) (xs : List Int) (hn : xs.length ≤ 140737488351232) : ∀ (d k i : Nat), i + d = xs.length → d < k → impl_each.l0 k lo hi xs (xs.length : Int) (i : Int) = some (within lo hi (xs.drop i)) := by
  intro d
  induction d with
  | zero =>
    intro k i hi' hk
    obtain ⟨k, rfl⟩ : ∃ m, k = m + 1 := ⟨k - 1, by omega⟩
    rw [List.drop_of_length_le (by omega)]
    simp only [impl_each.l0]
    rw [if_neg (by omega)]; rfl
  | succ d ih =>
    intro k i hi' hk
    obtain ⟨k, rfl⟩ : ∃ m, k = m + 1 := ⟨k - 1, by omega⟩
    have hlt : i < xs.length := by omega
    rw [List.drop_eq_getElem_cons hlt]
    simp only [impl_each.l0]
    rw [if_pos (by omega), if_pos (by omega), if_pos (by omega), rd_nat hlt, wrap_nat (by omega), implIn, ih k (i + 1) (by omega) (by omega)]
    unfold within
    rw [List.all_cons]
    cases (decide (lo ≤ xs[i]) && decide (xs[i] ≤ hi)) <;> rfl
theorem each (lo hi n : Int) (xs : List Int) (k : Nat) (hn : xs.length ≤ 140737488351232) (hk : xs.length < k) : impl_each.f k xs n lo hi = some (decide ((xs.length : Int) = n) && within lo hi xs) := by
  unfold impl_each.f
  by_cases h : (xs.length : Int) = n
  · rw [if_pos h, decide_eq_true h, Bool.true_and]
    exact each_l0 lo hi xs hn xs.length k 0 (by omega) hk
  · rw [if_neg h, decide_eq_false h, Bool.false_and]

theorem specOk (xs : List Int) (k : Nat) (hn : xs.length ≤ 1048576) (hk : xs.length < k) : spec_l19Ok.f k xs = some (decide ((1 : Int) ≤ xs.length) && decide ((xs.length : Int) ≤ 500) && within (-100000) 100000 xs) := by
  unfold spec_l19Ok.f
  rw [l15 _ _ _ _ _ (by omega) hk]
  by_cases h1 : (1 : Int) ≤ xs.length
  · by_cases h2 : (xs.length : Int) ≤ 500
    · simp [h1, h2]
    · simp [h1, h2]
  · simp [h1]
theorem implOk (xs : List Int) (k : Nat) (hn : xs.length ≤ 1048576) (hk : xs.length < k) : impl_seriesOk.f k xs = some (decide ((1 : Int) ≤ xs.length) && decide ((xs.length : Int) ≤ 500) && within (-100000) 100000 xs) := by
  unfold impl_seriesOk.f
  rw [each _ _ _ _ _ (by omega) hk, implIn]
  by_cases h1 : (1 : Int) ≤ xs.length
  · by_cases h2 : (xs.length : Int) ≤ 500
    · simp [h1, h2]
    · simp [h1, h2]
  · simp [h1]

def sumW : List Int → Int → Int
  | [], s => s
  | x :: r, s => sumW r (wrap64 (s + x))
theorem sumW_append (xs : List Int) (y : Int) : ∀ s, sumW (xs ++ [y]) s = wrap64 (sumW xs s + y) := by
  induction xs with
  | nil => intro s; rfl
  | cons x r ih => intro s; exact ih _
theorem sumW_bound (xs : List Int) : ∀ (s : Int) (c : Nat), within (-100000) 100000 xs = true → c + xs.length ≤ 1000 → -(100000 * (c : Int)) ≤ s → s ≤ 100000 * (c : Int) →
    -(100000 * ((c + xs.length : Nat) : Int)) ≤ sumW xs s ∧ sumW xs s ≤ 100000 * ((c + xs.length : Nat) : Int) := by
  induction xs with
  | nil => intro s c _ _ h1 h2; exact ⟨by simpa [sumW] using h1, by simpa [sumW] using h2⟩
  | cons x r ih =>
    intro s c hw hc h1 h2
    unfold within at hw
    rw [List.all_cons, Bool.and_eq_true, Bool.and_eq_true] at hw
    obtain ⟨⟨hx1, hx2⟩, hr⟩ := hw
    have hx1 := of_decide_eq_true hx1
    have hx2 := of_decide_eq_true hx2
    simp only [List.length_cons] at hc
    have hwr : wrap64 (s + x) = s + x := by unfold wrap64; omega
    have := ih (s + x) (c + 1) hr (by omega) (by omega) (by omega)
    simp only [sumW, hwr, List.length_cons]
    rw [show c + (r.length + 1) = c + 1 + r.length from by omega]
    exact this
def apart (n all s k : Int) : Int := mx (wrap64 (wrap64 (n * s) - wrap64 (k * all))) (wrap64 (wrap64 (k * all) - wrap64 (n * s)))
theorem wrap_back (a b : Int) : wrap64 (-(wrap64 (a - b))) = wrap64 (b - a) := by unfold wrap64; omega
def go (n all : Int) (xs : List Int) : Nat → Nat → Int → Int → Int × Int
  | 0, _, a, m => (a, m)
  | d + 1, j, a, m => if apart n all (sumW (xs.take (j + 1)) 0) ((j + 1 : Nat) : Int) > m then go n all xs d (j + 1) ((j + 1 : Nat) : Int) (apart n all (sumW (xs.take (j + 1)) 0) ((j + 1 : Nat) : Int)) else go n all xs d (j + 1) a m
theorem go_ge (n all : Int) (xs : List Int) : ∀ (d j : Nat) (a m : Int), m ≤ (go n all xs d j a m).2 := by
  intro d
  induction d with
  | zero => intro j a m; exact Int.le_refl _
  | succ d ih =>
    intro j a m
    simp only [go]
    split
    · have := ih (j + 1) ((j + 1 : Nat) : Int) (apart n all (sumW (xs.take (j + 1)) 0) ((j + 1 : Nat) : Int)); omega
    · exact ih _ _ _
theorem specSum_l0 (xs : List Int) (hn : xs.length ≤ 140737488351232) : ∀ (d k i : Nat) (s : Int), i + d = xs.length → d < k → spec_l19Sum.l0 k xs s (i : Int) = some (sumW (xs.drop i) s) := by
  intro d
  induction d with
  | zero =>
    intro k i s hi' hk
    obtain ⟨k, rfl⟩ : ∃ m, k = m + 1 := ⟨k - 1, by omega⟩
    rw [List.drop_of_length_le (by omega)]
    simp only [spec_l19Sum.l0]
    rw [if_neg (by omega)]; rfl
  | succ d ih =>
    intro k i s hi' hk
    obtain ⟨k, rfl⟩ : ∃ m, k = m + 1 := ⟨k - 1, by omega⟩
    have hlt : i < xs.length := by omega
    rw [List.drop_eq_getElem_cons hlt]
    simp only [spec_l19Sum.l0, sumW]
    rw [if_pos (by omega), if_pos (by omega), rd_nat hlt, wrap_nat (by omega)]
    exact ih k (i + 1) _ (by omega) (by omega)
theorem specSum (xs : List Int) (k : Nat) (hn : xs.length ≤ 140737488351232) (hk : xs.length < k) : spec_l19Sum.f k xs = some (sumW xs 0) := specSum_l0 xs hn xs.length k 0 0 (by omega) hk
theorem specGo (xs : List Int) (hn : xs.length ≤ 1048576) : ∀ (d k j : Nat) (a m : Int), j + 1 + d = xs.length → d + xs.length < k →
    spec_Break.l0 k xs (xs.length : Int) a m ((j + 1 : Nat) : Int) = some ((go (xs.length : Int) (sumW xs 0) xs d j a m).1, mx (go (xs.length : Int) (sumW xs 0) xs d j a m).2 0) := by
  intro d
  induction d with
  | zero =>
    intro k j a m hj hk
    obtain ⟨k, rfl⟩ : ∃ m, k = m + 1 := ⟨k - 1, by omega⟩
    simp only [spec_Break.l0, go]
    rw [if_neg (by omega)]
  | succ d ih =>
    intro k j a m hj hk
    obtain ⟨k, rfl⟩ : ∃ m, k = m + 1 := ⟨k - 1, by omega⟩
    simp only [spec_Break.l0, go]
    have hl : (xs.take (j + 1)).length ≤ xs.length := List.length_take_le' _ _
    rw [if_pos (by omega), if_pos (by omega), if_pos (by omega), Int.toNat_natCast, specSum (xs.take (j + 1)) k (by omega) (by omega), specSum xs k (by omega) (by omega)]
    simp only [Option.bind_some, wrap_back]
    rw [show wrap64 (((j + 1 : Nat) : Int) + 1) = ((j + 1 + 1 : Nat) : Int) from wrap_nat (by omega)]
    unfold apart
    split <;> exact ih k (j + 1) _ _ (by omega) (by omega)
theorem implGo (xs : List Int) (all : Int) (hn : xs.length ≤ 1048576) : ∀ (d k j : Nat) (a m : Int), j + 1 + d = xs.length → d < k →
    impl_Break.l1 k xs (xs.length : Int) all (sumW (xs.take j) 0) a m ((j + 1 : Nat) : Int) = some (go (xs.length : Int) all xs d j a m) := by
  intro d
  induction d with
  | zero =>
    intro k j a m hj hk
    obtain ⟨k, rfl⟩ : ∃ m, k = m + 1 := ⟨k - 1, by omega⟩
    simp only [impl_Break.l1, go]
    rw [if_neg (by omega)]
  | succ d ih =>
    intro k j a m hj hk
    obtain ⟨k, rfl⟩ : ∃ m, k = m + 1 := ⟨k - 1, by omega⟩
    have hlt : j < xs.length := by omega
    simp only [impl_Break.l1, go, impl_away.f, Option.bind_some]
    have hw : wrap64 (((j + 1 : Nat) : Int) - 1) = (j : Int) := by unfold wrap64; omega
    rw [hw, if_pos (by omega), if_pos (by omega), if_pos (by omega), rd_nat hlt, show wrap64 (((j + 1 : Nat) : Int) + 1) = ((j + 1 + 1 : Nat) : Int) from wrap_nat (by omega), ← sumW_append, ← List.take_succ_eq_append_getElem hlt]
    unfold apart
    split <;> exact ih k (j + 1) _ _ (by omega) (by omega)
theorem implSum (x0 : List Int) (n : Int) (xs : List Int) (hn : xs.length ≤ 140737488351232) : ∀ (d k i : Nat) (s : Int), i + d = xs.length → d < k → impl_Break.l0 k x0 n s xs (xs.length : Int) (i : Int) = impl_Break.l1 (k - d - 1) x0 n (sumW (xs.drop i) s) 0 0 (-1) 1 := by
  intro d
  induction d with
  | zero =>
    intro k i s hi' hk
    obtain ⟨k, rfl⟩ : ∃ m, k = m + 1 := ⟨k - 1, by omega⟩
    rw [List.drop_of_length_le (by omega)]
    simp only [impl_Break.l0]
    rw [if_neg (by omega)]; rfl
  | succ d ih =>
    intro k i s hi' hk
    obtain ⟨k, rfl⟩ : ∃ m, k = m + 1 := ⟨k - 1, by omega⟩
    have hlt : i < xs.length := by omega
    rw [List.drop_eq_getElem_cons hlt]
    simp only [impl_Break.l0, sumW]
    rw [if_pos (by omega), if_pos (by omega), if_pos (by omega), rd_nat hlt, wrap_nat (by omega), ih k (i + 1) _ (by omega) (by omega), show k - d - 1 = k + 1 - (d + 1) - 1 from by omega]
theorem prod_bound {n x N M : Int} (h0 : 0 ≤ n) (h1 : n ≤ N) (hM : 0 ≤ M) (a : -M ≤ x) (b : x ≤ M) : -(N * M) ≤ n * x ∧ n * x ≤ N * M := by
  have e1 : n * x ≤ n * M := Int.mul_le_mul_of_nonneg_left b h0
  have e2 : n * M ≤ N * M := Int.mul_le_mul_of_nonneg_right h1 hM
  have e3 : n * (-M) ≤ n * x := Int.mul_le_mul_of_nonneg_left a h0
  rw [Int.mul_neg] at e3
  omega
theorem apart_nonneg {n all s k : Int} (h0 : 0 ≤ n) (h1 : n ≤ 1000) (k0 : 0 ≤ k) (k1 : k ≤ 1000) (s1 : -100000000 ≤ s) (s2 : s ≤ 100000000) (a1 : -100000000 ≤ all) (a2 : all ≤ 100000000) : 0 ≤ apart n all s k := by
  have e1 := prod_bound h0 h1 (by omega : (0 : Int) ≤ 100000000) s1 s2
  have e2 := prod_bound k0 k1 (by omega : (0 : Int) ≤ 100000000) a1 a2
  unfold apart mx
  generalize n * s = p at *
  generalize k * all = q at *
  have w1 : wrap64 p = p := by unfold wrap64; omega
  have w2 : wrap64 q = q := by unfold wrap64; omega
  rw [w1, w2]
  have w3 : wrap64 (p - q) = p - q := by unfold wrap64; omega
  have w4 : wrap64 (q - p) = q - p := by unfold wrap64; omega
  rw [w3, w4]
  split <;> omega
theorem both (xs : List Int) (k : Nat) (hn : xs.length ≤ 1048576) (hk : xs.length + xs.length + xs.length < k) : ∃ t, spec_Break.f (k + 1) xs = some t ∧ impl_Break.f (k + 1) xs = some t := by
  unfold spec_Break.f impl_Break.f
  simp only [specOk xs (k + 1) hn (by omega), implOk xs (k + 1) hn (by omega), Option.bind_some]
  by_cases h1 : (1 : Int) ≤ xs.length
  · by_cases h2 : (xs.length : Int) ≤ 500
    · cases h3 : within (-100000) 100000 xs with
      | false => simp [impl_Break.j0]
      | true =>
        simp only [h1, h2, decide_true, Bool.and_self, if_true, impl_Break.j0]
        by_cases h4 : xs.length = 1
        · refine ⟨(0, 0), ?_, ?_⟩
          · simp only [spec_Break.l0]
            rw [if_neg (by omega)]; rfl
          · rw [h4]; rfl
        · obtain ⟨d, hd⟩ : ∃ d, 0 + 1 + d = xs.length := ⟨xs.length - 1, by omega⟩
          obtain ⟨d, rfl⟩ : ∃ m, d = m + 1 := ⟨d - 1, by omega⟩
          have e1 := specGo xs hn (d + 1) (k + 1) 0 0 (-1) hd (by omega)
          have e2 := implSum xs (xs.length : Int) xs (by omega) xs.length k 0 0 (by omega) (by omega)
          have e3 := implGo xs (sumW xs 0) hn (d + 1) (k - xs.length - 1) 0 0 (-1) hd (by omega)
          rw [List.drop_zero] at e2
          have e4 : ((xs.length : Int) == 1) = false := by simp; omega
          have e5 := e2.trans e3
          have hall := sumW_bound xs 0 0 h3 (by omega) (by omega) (by omega)
          have hx : 0 ≤ apart (xs.length : Int) (sumW xs 0) (sumW (xs.take (0 + 1)) 0) ((0 + 1 : Nat) : Int) := by
            have hw1 : within (-100000) 100000 (xs.take (0 + 1)) = true := by
              unfold within at *
              rw [List.all_eq_true] at *
              intro x hx
              exact h3 x (List.mem_of_mem_take hx)
            have hl : (xs.take (0 + 1)).length ≤ 1 := List.length_take_le _ _
            have hb := sumW_bound (xs.take (0 + 1)) 0 0 hw1 (by omega) (by omega) (by omega)
            exact apart_nonneg (by omega) (by omega) (by omega) (by omega) (by omega) (by omega) (by omega) (by omega)
          have hpos : 0 ≤ (go (xs.length : Int) (sumW xs 0) xs (d + 1) 0 0 (-1)).2 := by
            simp only [go]
            rw [if_pos (by omega)]
            exact Int.le_trans hx (go_ge _ _ _ _ _ _ _)
          refine ⟨go (xs.length : Int) (sumW xs 0) xs (d + 1) 0 0 (-1), ?_, ?_⟩
          · refine e1.trans ?_
            rw [show mx (go (xs.length : Int) (sumW xs 0) xs (d + 1) 0 0 (-1)).2 0 = (go (xs.length : Int) (sumW xs 0) xs (d + 1) 0 0 (-1)).2 from by unfold mx; omega]
          · rw [e4]
            simp only [Bool.false_eq_true, if_false]
            exact e5
    · simp [h2, impl_Break.j0]
  · simp [h1, impl_Break.j0]

theorem FnExactBreak : laws_FnExactBreak.Pure := by
  intro l0 _ _ _
  refine ⟨3145730 + 1 + 1, ?_⟩
  unfold laws_FnExactBreak.f
  by_cases hb : (l0.length : Int) > 1048576
  · rw [if_pos hb]
  · rw [if_neg hb]
    obtain ⟨t, he, ht⟩ := both l0 (3145730 + 1) (by omega) (by omega)
    simp only [toInts l0 (3145730 + 1 + 1) (by omega) (by omega), Option.bind_some, he, ht, if_true, bne_self_eq_false, laws_FnExactBreak.j0, Bool.false_eq_true, if_false, toInts l0 (3145730 + 1) (by omega) (by omega), eqInts l0 (3145730 + 1) (by omega) (by omega)]

end Go.Proofs.Ytfpddfhndifnoab.Pure
