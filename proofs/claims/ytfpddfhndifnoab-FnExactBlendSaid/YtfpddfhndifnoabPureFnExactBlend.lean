/- FnExactBlend over numbers and lists alone: the two means are one. Conditions: none. -/
import Derived.Test.YtfpddfhndifnoabPFnExactBlendx3
namespace Go.Proofs.Ytfpddfhndifnoab.Pure
open Go.RowKit Go.Proofs.Ytfpddfhndifnoab.PFnExactBlend Go.Proofs.YtfpddfhndifnoabW.PrintWords Go.Proofs.YtfpddfhndifnoabW.PrintLast Go.Proofs.YtfpddfhndifnoabW.PrintMore
set_option linter.unusedVariables false
set_option linter.unusedSimpArgs false

theorem rd_nat {xs : List Int} {i : Nat} (h : i < xs.length) : rd xs (i : Int) = xs[i] := by
  unfold rd; rw [Int.toNat_natCast, List.getD_eq_getElem?_getD, List.getElem?_eq_getElem h]; rfl
theorem wrap_nat {i : Nat} (h : i < 9223372036854775807) : wrap64 ((i : Int) + 1) = ((i + 1 : Nat) : Int) := by
  unfold wrap64; omega

theorem toInts_l0 (xs : List Int) (hn : xs.length ≤ 140737488351232) : ∀ (d k i : Nat) (ys : List Int), i + d = xs.length → d < k → ys.length = xs.length → ys.take i = xs.take i →
    laws_toInt64S.l0 k xs ys (i : Int) = some xs := by
  intro d
  induction d with
  | zero =>
    intro k i ys hi hk hl ht
    obtain ⟨k, rfl⟩ : ∃ m, k = m + 1 := ⟨k - 1, by omega⟩
    rw [List.take_of_length_le (by omega), List.take_of_length_le (by omega)] at ht
    simp only [laws_toInt64S.l0]
    rw [if_neg (by omega), ht]
  | succ d ih =>
    intro k i ys hi hk hl ht
    obtain ⟨k, rfl⟩ : ∃ m, k = m + 1 := ⟨k - 1, by omega⟩
    have hlt : i < xs.length := by omega
    simp only [laws_toInt64S.l0]
    rw [if_pos (by omega), if_pos (by omega), if_pos (by omega), rd_nat hlt, wrap_nat (by omega), Int.toNat_natCast]
    refine ih k (i + 1) _ (by omega) (by omega) (by rw [List.length_set]; exact hl) ?_
    rw [List.take_succ_eq_append_getElem (by rw [List.length_set]; omega), List.take_succ_eq_append_getElem hlt, List.take_set_of_le (Nat.le_refl i), ht, List.getElem_set_self]
theorem toInts (xs : List Int) (k : Nat) (hn : xs.length ≤ 1048576) (hk : xs.length < k) : laws_toInt64S.f k xs = some xs := by
  unfold laws_toInt64S.f
  rw [if_pos (by omega), if_pos (by omega)]
  exact toInts_l0 xs (by omega) xs.length k 0 _ (by omega) hk (by simp) rfl

theorem eqInts_l0 (xs : List Int) (hn : xs.length ≤ 140737488351232) : ∀ (d k i : Nat), i + d = xs.length → d < k → laws_eqInt64S.l0 k xs xs (i : Int) = some true := by
  intro d
  induction d with
  | zero =>
    intro k i hi hk
    obtain ⟨k, rfl⟩ : ∃ m, k = m + 1 := ⟨k - 1, by omega⟩
    simp only [laws_eqInt64S.l0]
    rw [if_neg (by omega)]
  | succ d ih =>
    intro k i hi hk
    obtain ⟨k, rfl⟩ : ∃ m, k = m + 1 := ⟨k - 1, by omega⟩
    simp only [laws_eqInt64S.l0]
    rw [if_pos (by omega), if_pos (by omega), if_pos (by omega), if_pos trivial, wrap_nat (by omega)]
    exact ih k (i + 1) (by omega) (by omega)
theorem eqInts (xs : List Int) (k : Nat) (hn : xs.length ≤ 140737488351232) (hk : xs.length < k) : laws_eqInt64S.f k xs xs = some true := by
  unfold laws_eqInt64S.f
  rw [if_pos rfl]
  exact eqInts_l0 xs hn xs.length k 0 (by omega) hk

def within (lo hi : Int) (xs : List Int) : Bool := xs.all fun x => decide (lo ≤ x) && decide (x ≤ hi)
theorem specIn (a b c : Int) : spec_l2In.f a b c = some (decide (b ≤ a) && decide (a ≤ c)) := by
  unfold spec_l2In.f; by_cases h : a ≥ b
  · rw [if_pos h, decide_eq_true (show b ≤ a from h), Bool.true_and]
  · rw [if_neg h, decide_eq_false (show ¬ b ≤ a from h), Bool.false_and]
theorem l15_l0 (lo hi : Int) (xs : List Int) (hn : xs.length ≤ 140737488351232) : ∀ (d k i : Nat), i + d = xs.length → d < k → spec_l15All.l0 k xs lo hi (i : Int) = some (within lo hi (xs.drop i)) := by
  intro d
  induction d with
  | zero =>
    intro k i hi' hk
    obtain ⟨k, rfl⟩ : ∃ m, k = m + 1 := ⟨k - 1, by omega⟩
    rw [List.drop_of_length_le (by omega)]
    simp only [spec_l15All.l0]
    rw [if_neg (by omega)]; rfl
  | succ d ih =>
    intro k i hi' hk
    obtain ⟨k, rfl⟩ : ∃ m, k = m + 1 := ⟨k - 1, by omega⟩
    have hlt : i < xs.length := by omega
    rw [List.drop_eq_getElem_cons hlt]
    simp only [spec_l15All.l0]
    rw [if_pos (by omega), if_pos (by omega), rd_nat hlt, wrap_nat (by omega), specIn, ih k (i + 1) (by omega) (by omega)]
    unfold within
    rw [List.all_cons]
    cases (decide (lo ≤ xs[i]) && decide (xs[i] ≤ hi)) <;> rfl
theorem l15 (lo hi n : Int) (xs : List Int) (k : Nat) (hn : xs.length ≤ 140737488351232) (hk : xs.length < k) : spec_l15All.f k xs n lo hi = some (decide ((xs.length : Int) = n) && within lo hi xs) := by
  unfold spec_l15All.f
  by_cases h : (xs.length : Int) = n
  · rw [if_pos h, decide_eq_true h, Bool.true_and]
    exact l15_l0 lo hi xs hn xs.length k 0 (by omega) hk
  · rw [if_neg h, decide_eq_false h, Bool.false_and]

theorem implIn (a b c : Int) : impl_in.f a b c = some (decide (b ≤ a) && decide (a ≤ c)) := by
  unfold impl_in.f; by_cases h : a ≥ b
  · rw [if_pos h, decide_eq_true (show b ≤ a from h), Bool.true_and]
  · rw [if_neg h, decide_eq_false (show ¬ b ≤ a from h), Bool.false_and]
theorem each_l0 (lo hi : Int) (xs : List Int) (hn : xs.length ≤ 140737488351232) : ∀ (d k i : Nat), i + d = xs.length → d < k → impl_each.l0 k lo hi xs (xs.length : Int) (i : Int) = some (within lo hi (xs.drop i)) := by
  intro d
  induction d with
  | zero =>
    intro k i hi' hk
    obtain ⟨k, rfl⟩ : ∃ m, k = m + 1 := ⟨k - 1, by omega⟩
    rw [List.drop_of_length_le (by omega)]
    simp only [impl_each.l0]
    rw [if_neg (by omega)]; rfl
  | succ d ih =>
    intro k i hi' hk
    obtain ⟨k, rfl⟩ : ∃ m, k = m + 1 := ⟨k - 1, by omega⟩
    have hlt : i < xs.length := by omega
    rw [List.drop_eq_getElem_cons hlt]
    simp only [impl_each.l0]
    rw [if_pos (by omega), if_pos (by omega), if_pos (by omega), rd_nat hlt, wrap_nat (by omega), implIn, ih k (i + 1) (by omega) (by omega)]
    unfold within
    rw [List.all_cons]
    cases (decide (lo ≤ xs[i]) && decide (xs[i] ≤ hi)) <;> rfl
theorem each (lo hi n : Int) (xs : List Int) (k : Nat) (hn : xs.length ≤ 140737488351232) (hk : xs.length < k) : impl_each.f k xs n lo hi = some (decide ((xs.length : Int) = n) && within lo hi xs) := by
  unfold impl_each.f
  by_cases h : (xs.length : Int) = n
  · rw [if_pos h, decide_eq_true h, Bool.true_and]
    exact each_l0 lo hi xs hn xs.length k 0 (by omega) hk
  · rw [if_neg h, decide_eq_false h, Bool.false_and]

def prod : List Int → Int
  | [] => 1
  | v :: r => v * prod r
theorem prod_append (a b : List Int) : prod (a ++ b) = prod a * prod b := by
  induction a with
  | nil => simp [prod]
  | cons x r ih => simp only [List.cons_append, prod, ih, Int.mul_assoc]
theorem within_mem {lo hi : Int} {xs : List Int} (h : within lo hi xs = true) {x : Int} (hx : x ∈ xs) : lo ≤ x ∧ x ≤ hi := by
  unfold within at h
  rw [List.all_eq_true] at h
  have := h x hx
  rw [Bool.and_eq_true] at this
  exact ⟨of_decide_eq_true this.1, of_decide_eq_true this.2⟩
theorem within_sub {lo hi : Int} {xs ys : List Int} (h : within lo hi xs = true) (hs : ∀ y ∈ ys, y ∈ xs) : within lo hi ys = true := by
  unfold within at *
  rw [List.all_eq_true] at *
  exact fun y hy => h y (hs y hy)
theorem mul_bound {p v N : Int} (h0 : 1 ≤ p) (h1 : p ≤ N) (v0 : 1 ≤ v) (v1 : v ≤ 100) : 1 ≤ p * v ∧ p * v ≤ N * 100 := by
  have e1 : p * 1 ≤ p * v := Int.mul_le_mul_of_nonneg_left v0 (by omega)
  have e2 : p * v ≤ p * 100 := Int.mul_le_mul_of_nonneg_left v1 (by omega)
  omega
/-- the bound on a product of so many numbers of 1 to 100 -/
def top (n : Nat) : Int := match n with | 0 => 1 | 1 => 100 | 2 => 10000 | 3 => 1000000 | 4 => 100000000 | _ => 10000000000
theorem top_succ {n : Nat} (h : n ≤ 4) : top n * 100 = top (n + 1) := by
  rcases (by omega : n = 0 ∨ n = 1 ∨ n = 2 ∨ n = 3 ∨ n = 4) with rfl | rfl | rfl | rfl | rfl <;> rfl
theorem top_le (n : Nat) : top n ≤ 10000000000 := by unfold top; split <;> omega
theorem prod_bound : ∀ (xs : List Int), within 1 100 xs = true → xs.length ≤ 5 → 1 ≤ prod xs ∧ prod xs ≤ top xs.length := by
  intro xs
  induction xs with
  | nil => intro _ _; exact ⟨by simp [prod], by simp [prod, top]⟩
  | cons x r ih =>
    intro hw hl
    simp only [List.length_cons] at hl ⊢
    have hx := within_mem hw (List.mem_cons_self)
    have hr := ih (within_sub hw fun y hy => List.mem_cons_of_mem _ hy) (by omega)
    have := mul_bound hr.1 hr.2 hx.1 hx.2
    rw [top_succ (by omega)] at this
    simp only [prod]
    rw [Int.mul_comm]
    exact this
/-- the product of all but number i -/
def but (xs : List Int) (i : Nat) : Int := prod (xs.take i) * prod (xs.drop (i + 1))
theorem but_mul {xs : List Int} {i : Nat} (h : i < xs.length) : but xs i * xs[i] = prod xs := by
  have : prod xs = prod (xs.take i ++ xs.drop i) := by rw [List.take_append_drop]
  rw [this, prod_append, List.drop_eq_getElem_cons h, but, prod, Int.mul_assoc, Int.mul_comm (prod _) xs[i]]
theorem but_bound {xs : List Int} {i : Nat} (h : i < xs.length) (hw : within 1 100 xs = true) (hl : xs.length ≤ 5) : 1 ≤ but xs i ∧ but xs i ≤ 10000000000 := by
  have e : but xs i = prod (xs.take i ++ xs.drop (i + 1)) := by rw [prod_append]; rfl
  have := prod_bound (xs.take i ++ xs.drop (i + 1)) (within_sub hw fun y hy => by
    rcases List.mem_append.1 hy with h | h
    · exact List.mem_of_mem_take h
    · exact List.mem_of_mem_drop h) (by rw [List.length_append, List.length_take, List.length_drop]; omega)
  have ht := top_le (xs.take i ++ xs.drop (i + 1)).length
  rw [e]
  omega
/-- the two sums from number i on -/
def sums (vs ws : List Int) : Nat → Nat → Int → Int → Int × Int
  | 0, _, a, b => (a, b)
  | d + 1, i, a, b => sums vs ws d (i + 1) (a + vs.getD i 0 * but ws i) (b + but ws i)
theorem sums_bound (vs ws : List Int) (hv : within (-100000) 100000 vs = true) (hw : within 1 100 ws = true) (hl : ws.length ≤ 5) (he : vs.length = ws.length) : ∀ (d i : Nat) (a b : Int), i + d = ws.length → -(1000000000000000 * (i : Int)) ≤ a → a ≤ 1000000000000000 * (i : Int) → (i : Int) ≤ b → b ≤ 10000000000 * (i : Int) →
    -(1000000000000000 * ((i + d : Nat) : Int)) ≤ (sums vs ws d i a b).1 ∧ (sums vs ws d i a b).1 ≤ 1000000000000000 * ((i + d : Nat) : Int) ∧ ((i + d : Nat) : Int) ≤ (sums vs ws d i a b).2 ∧ (sums vs ws d i a b).2 ≤ 10000000000 * ((i + d : Nat) : Int) := by
  intro d
  induction d with
  | zero => intro i a b _ h1 h2 h3 h4; exact ⟨h1, h2, h3, h4⟩
  | succ d ih =>
    intro i a b hi h1 h2 h3 h4
    have hlt : i < ws.length := by omega
    have hb := but_bound hlt hw hl
    have hlt' : i < vs.length := by omega
    have hv' := within_mem hv (List.getElem_mem hlt')
    have eg : vs.getD i 0 = vs[i] := by rw [List.getD_eq_getElem?_getD, List.getElem?_eq_getElem hlt']; rfl
    have e1 : vs.getD i 0 * but ws i ≤ 100000 * but ws i := Int.mul_le_mul_of_nonneg_right (by omega) (by omega)
    have e2 : (-100000) * but ws i ≤ vs.getD i 0 * but ws i := Int.mul_le_mul_of_nonneg_right (by omega) (by omega)
    have := ih (i + 1) (a + vs.getD i 0 * but ws i) (b + but ws i) (by omega) (by omega) (by omega) (by omega) (by omega)
    rw [show i + (d + 1) = i + 1 + d from by omega]
    exact this
theorem spec_l1 (vs ws : List Int) (a b : Int) (i : Nat) (hw : within 1 100 ws = true) (hl : ws.length ≤ 5) (hi : i < ws.length) : ∀ (d k j : Nat), j + d = ws.length → d < k →
    spec_Blend.l1 k vs ws a b (i : Int) (if j ≤ i then prod (ws.take j) else prod (ws.take i) * prod ((ws.drop (i + 1)).take (j - (i + 1)))) (j : Int) =
      if (i : Int) < (vs.length : Int) then spec_Blend.l0 (k - d - 1) vs ws (wrap64 (a + wrap64 (rd vs (i : Int) * but ws i))) (wrap64 (b + but ws i)) ((i + 1 : Nat) : Int) else none := by
  intro d
  induction d with
  | zero =>
    intro k j hj hk
    obtain ⟨k, rfl⟩ : ∃ m, k = m + 1 := ⟨k - 1, by omega⟩
    simp only [spec_Blend.l1]
    rw [if_neg (show ¬ (j : Int) < (ws.length : Int) by omega), if_neg (show ¬ j ≤ i by omega), if_pos (show (0 : Int) ≤ (i : Int) by omega), wrap_nat (by omega), List.take_of_length_le (show (ws.drop (i + 1)).length ≤ j - (i + 1) by rw [List.length_drop]; omega)]
    rfl
  | succ d ih =>
    intro k j hj hk
    obtain ⟨k, rfl⟩ : ∃ m, k = m + 1 := ⟨k - 1, by omega⟩
    have hlt : j < ws.length := by omega
    simp only [spec_Blend.l1]
    rw [if_pos (show (j : Int) < (ws.length : Int) by omega), wrap_nat (by omega), show k + 1 - (d + 1) - 1 = k - d - 1 from by omega, ← ih k (j + 1) (by omega) (by omega)]
    by_cases h0 : j = i
    · subst h0
      rw [if_pos rfl, if_pos (Nat.le_refl j), if_neg (show ¬ j + 1 ≤ j by omega), Nat.sub_self, List.take_zero]
      simp [prod]
    · rw [if_neg (show ¬ (j : Int) = (i : Int) by omega), if_pos (show (0 : Int) ≤ (j : Int) by omega), rd_nat hlt]
      congr 1
      by_cases h1 : j ≤ i
      · rw [if_pos h1, if_pos (show j + 1 ≤ i by omega), List.take_succ_eq_append_getElem hlt, prod_append]
        have hb := prod_bound (ws.take j ++ [ws[j]]) (within_sub hw fun y hy => by rw [← List.take_succ_eq_append_getElem hlt] at hy; exact List.mem_of_mem_take hy) (by rw [← List.take_succ_eq_append_getElem hlt, List.length_take]; omega)
        have ht := top_le (ws.take j ++ [ws[j]]).length
        rw [prod_append] at hb
        simp only [prod, Int.mul_one] at hb ⊢
        unfold wrap64; omega
      · have hd : j - (i + 1) < (ws.drop (i + 1)).length := by rw [List.length_drop]; omega
        have hg : (ws.drop (i + 1))[j - (i + 1)] = ws[j] := by rw [List.getElem_drop]; congr 1; omega
        rw [if_neg h1, if_neg (show ¬ j + 1 ≤ i by omega), show j + 1 - (i + 1) = j - (i + 1) + 1 from by omega, List.take_succ_eq_append_getElem hd, hg, prod_append, ← Int.mul_assoc]
        have hb := prod_bound (ws.take i ++ ((ws.drop (i + 1)).take (j - (i + 1)) ++ [ws[j]])) (within_sub hw fun y hy => by
          rcases List.mem_append.1 hy with h | h
          · exact List.mem_of_mem_take h
          · rcases List.mem_append.1 h with h | h
            · exact List.mem_of_mem_drop (List.mem_of_mem_take h)
            · rw [List.mem_singleton.1 h]; exact List.getElem_mem hlt) (by simp only [List.length_append, List.length_take, List.length_drop, List.length_cons, List.length_nil]; omega)
        have ht := top_le (ws.take i ++ ((ws.drop (i + 1)).take (j - (i + 1)) ++ [ws[j]])).length
        rw [prod_append, prod_append, ← Int.mul_assoc] at hb
        simp only [prod, Int.mul_one] at hb ⊢
        unfold wrap64; omega
theorem spec_l0 (vs ws : List Int) (hv : within (-100000) 100000 vs = true) (hw : within 1 100 ws = true) (hl : ws.length ≤ 5) (he : vs.length = ws.length) : ∀ (d k i : Nat) (a b : Int), i + d = ws.length → d * 7 < k → -(1000000000000000 * (i : Int)) ≤ a → a ≤ 1000000000000000 * (i : Int) → (i : Int) ≤ b → b ≤ 10000000000 * (i : Int) →
    ∃ q, k ≤ q + d * 7 + 1 ∧ spec_Blend.l0 k vs ws a b (i : Int) = spec_Blend.l2 q (sums vs ws d i a b).1 (sums vs ws d i a b).2 (mx (sums vs ws d i a b).1 (wrap64 (-(sums vs ws d i a b).1))) (sums vs ws d i a b).2 := by
  intro d
  induction d with
  | zero =>
    intro k i a b hi hk _ _ _ _
    obtain ⟨k, rfl⟩ : ∃ m, k = m + 1 := ⟨k - 1, by omega⟩
    refine ⟨k, by omega, ?_⟩
    simp only [spec_Blend.l0, sums]
    rw [if_neg (by omega)]
  | succ d ih =>
    intro k i a b hi hk h1 h2 h3 h4
    obtain ⟨k, rfl⟩ : ∃ m, k = m + 1 := ⟨k - 1, by omega⟩
    have hlt : i < ws.length := by omega
    have hlt' : i < vs.length := by omega
    have hb := but_bound hlt hw hl
    have hv' := within_mem hv (List.getElem_mem hlt')
    have eg : vs.getD i 0 = vs[i] := by rw [List.getD_eq_getElem?_getD, List.getElem?_eq_getElem hlt']; rfl
    have e1 : vs[i] * but ws i ≤ 100000 * but ws i := Int.mul_le_mul_of_nonneg_right (by omega) (by omega)
    have e2 : (-100000) * but ws i ≤ vs[i] * but ws i := Int.mul_le_mul_of_nonneg_right (by omega) (by omega)
    have hs := spec_l1 vs ws a b i hw hl hlt ws.length k 0 (by omega) (by omega)
    rw [if_pos (Nat.zero_le i), if_pos (show (i : Int) < (vs.length : Int) by omega), rd_nat hlt'] at hs
    have w1 : wrap64 (vs[i] * but ws i) = vs[i] * but ws i := by unfold wrap64; omega
    have w2 : wrap64 (a + vs[i] * but ws i) = a + vs[i] * but ws i := by unfold wrap64; omega
    have w3 : wrap64 (b + but ws i) = b + but ws i := by unfold wrap64; omega
    rw [w1, w2, w3] at hs
    obtain ⟨q, hq, hi'⟩ := ih (k - ws.length - 1) (i + 1) (a + vs[i] * but ws i) (b + but ws i) (by omega) (by omega) (by omega) (by omega) (by omega) (by omega)
    refine ⟨q, by omega, ?_⟩
    simp only [spec_Blend.l0, sums]
    rw [if_pos (by omega), eg]
    exact hs.trans hi'
theorem impl_l0 (vs x1 ws : List Int) (hw : within 1 100 ws = true) (hl : ws.length ≤ 5) : ∀ (d k i : Nat), i + d = ws.length → d < k → impl_Blend.l0 k vs x1 (prod (ws.take i)) ws (ws.length : Int) (i : Int) = impl_Blend.l1 (k - d - 1) vs (prod ws) 0 0 x1 (x1.length : Int) 0 := by
  intro d
  induction d with
  | zero =>
    intro k i hi hk
    obtain ⟨k, rfl⟩ : ∃ m, k = m + 1 := ⟨k - 1, by omega⟩
    simp only [impl_Blend.l0]
    rw [if_neg (by omega), List.take_of_length_le (by omega)]; rfl
  | succ d ih =>
    intro k i hi hk
    obtain ⟨k, rfl⟩ : ∃ m, k = m + 1 := ⟨k - 1, by omega⟩
    have hlt : i < ws.length := by omega
    simp only [impl_Blend.l0]
    rw [if_pos (by omega), if_pos (by omega), if_pos (by omega), rd_nat hlt, wrap_nat (by omega), show k + 1 - (d + 1) - 1 = k - d - 1 from by omega, ← ih k (i + 1) (by omega) (by omega)]
    congr 1
    have hb := prod_bound (ws.take i ++ [ws[i]]) (within_sub hw fun y hy => by rw [← List.take_succ_eq_append_getElem hlt] at hy; exact List.mem_of_mem_take hy) (by rw [← List.take_succ_eq_append_getElem hlt, List.length_take]; omega)
    have ht := top_le (ws.take i ++ [ws[i]]).length
    rw [List.take_succ_eq_append_getElem hlt, prod_append]
    rw [prod_append] at hb
    simp only [prod, Int.mul_one] at hb ⊢
    unfold wrap64; omega
theorem gcd_l0 : ∀ (n : Nat) (a b : Int) (k : Nat), b.natAbs = n → a.natAbs ≤ 4611686018427387904 → b.natAbs ≤ 4611686018427387904 → n < k → impl_gcd.l0 k a b = some ((Nat.gcd a.natAbs b.natAbs : Nat) : Int) := by
  intro n
  induction n using Nat.strongRecOn with
  | _ n ih =>
    intro a b k hn ha hb hk
    obtain ⟨k, rfl⟩ : ∃ m, k = m + 1 := ⟨k - 1, by omega⟩
    simp only [impl_gcd.l0]
    by_cases h0 : b = 0
    · subst h0
      rw [if_pos rfl, Int.natAbs_zero, Nat.gcd_zero_right]
      have : wrap64 (-a) = -a := by unfold wrap64; omega
      rw [this]; unfold mx
      split <;> (congr 1; omega)
    · rw [if_neg h0]
      have hm : (Int.tmod a b).natAbs = a.natAbs % b.natAbs := Int.natAbs_tmod a b
      have hlt : a.natAbs % b.natAbs < b.natAbs := Nat.mod_lt _ (by omega)
      rw [ih (Int.tmod a b).natAbs (by omega) b (Int.tmod a b) k rfl hb (by omega) (by omega), hm, Nat.gcd_comm b.natAbs, ← Nat.gcd_rec, Nat.gcd_comm]
theorem spec_l2 (p q : Int) : ∀ (b a k : Nat), 0 < a + b → b < k → spec_Blend.l2 k p q (a : Int) (b : Int) = some (wrap64 (Int.tdiv p ((Nat.gcd a b : Nat) : Int)), wrap64 (Int.tdiv q ((Nat.gcd a b : Nat) : Int))) := by
  intro b
  induction b using Nat.strongRecOn with
  | _ b ih =>
    intro a k hab hk
    obtain ⟨k, rfl⟩ : ∃ m, k = m + 1 := ⟨k - 1, by omega⟩
    simp only [spec_Blend.l2]
    by_cases h0 : b = 0
    · subst h0
      rw [if_neg (by omega), if_neg (by omega), Nat.gcd_zero_right]
    · rw [if_pos (by omega), if_neg (by omega), ← Int.ofNat_tmod]
      have hm : a % b < b := Nat.mod_lt _ (by omega)
      rw [ih (a % b) hm b k (by omega) (by omega), Nat.gcd_comm a b, Nat.gcd_rec b a, Nat.gcd_comm b (a % b)]
theorem impl_l1 (vs ws : List Int) (hv : within (-100000) 100000 vs = true) (hw : within 1 100 ws = true) (hl : ws.length ≤ 5) (he : vs.length = ws.length) : ∀ (d k i : Nat) (a b : Int), i + d = ws.length → d < k → -(1000000000000000 * (i : Int)) ≤ a → a ≤ 1000000000000000 * (i : Int) → (i : Int) ≤ b → b ≤ 10000000000 * (i : Int) →
    impl_Blend.l1 k vs (prod ws) a b ws (ws.length : Int) (i : Int) = (impl_gcd.f (k - d - 1) (sums vs ws d i a b).1 (sums vs ws d i a b).2).bind fun t122 => (if t122 = 0 then (none) else (some (wrap64 (Int.tdiv (sums vs ws d i a b).1 t122), wrap64 (Int.tdiv (sums vs ws d i a b).2 t122)))) := by
  intro d
  induction d with
  | zero =>
    intro k i a b hi hk _ _ _ _
    obtain ⟨k, rfl⟩ : ∃ m, k = m + 1 := ⟨k - 1, by omega⟩
    simp only [impl_Blend.l1, sums]
    rw [if_neg (by omega)]; rfl
  | succ d ih =>
    intro k i a b hi hk h1 h2 h3 h4
    obtain ⟨k, rfl⟩ : ∃ m, k = m + 1 := ⟨k - 1, by omega⟩
    have hlt : i < ws.length := by omega
    have hlt' : i < vs.length := by omega
    have hb := but_bound hlt hw hl
    have hv' := within_mem hv (List.getElem_mem hlt')
    have hw' := within_mem hw (List.getElem_mem hlt)
    have eg : vs.getD i 0 = vs[i] := by rw [List.getD_eq_getElem?_getD, List.getElem?_eq_getElem hlt']; rfl
    have e1 : vs[i] * but ws i ≤ 100000 * but ws i := Int.mul_le_mul_of_nonneg_right (by omega) (by omega)
    have e2 : (-100000) * but ws i ≤ vs[i] * but ws i := Int.mul_le_mul_of_nonneg_right (by omega) (by omega)
    have w1 : wrap64 (vs[i] * but ws i) = vs[i] * but ws i := by unfold wrap64; omega
    have w2 : wrap64 (a + vs[i] * but ws i) = a + vs[i] * but ws i := by unfold wrap64; omega
    have w3 : wrap64 (b + but ws i) = b + but ws i := by unfold wrap64; omega
    have w4 : wrap64 (but ws i) = but ws i := by unfold wrap64; omega
    have hq : Int.tdiv (prod ws) ws[i] = but ws i := by rw [← but_mul hlt]; exact Int.mul_tdiv_cancel _ (by omega)
    simp only [impl_Blend.l1, sums]
    rw [if_pos (by omega), if_pos (by omega), if_pos (by omega), if_pos (by omega), rd_nat hlt, rd_nat hlt', if_neg (by omega), hq, w4, w1, w2, w3, wrap_nat (by omega), ih k (i + 1) _ _ (by omega) (by omega) (by omega) (by omega) (by omega) (by omega), eg, show k + 1 - (d + 1) - 1 = k - d - 1 from by omega]
theorem both (vs ws : List Int) (k : Nat) (hv : vs.length ≤ 1048576) (hw : ws.length ≤ 1048576) (hk : 60000000000 < k) : ∃ t, spec_Blend.f (k + 1) vs ws = some t ∧ impl_Blend.f (k + 1) vs ws = some t := by
  unfold spec_Blend.f impl_Blend.f
  simp only [l15 _ _ _ vs (k + 1) (by omega) (by omega), l15 _ _ _ ws (k + 1) (by omega) (by omega), each _ _ _ vs (k + 1) (by omega) (by omega), each _ _ _ ws (k + 1) (by omega) (by omega), implIn, Option.bind_some, spec_Blend.j0, impl_Blend.j0]
  by_cases c1 : (vs.length : Int) < 1
  · exact ⟨(0, 0), by simp [c1], by simp [show ¬ (1 : Int) ≤ (vs.length : Int) by omega]⟩
  · by_cases c2 : (vs.length : Int) > 5
    · exact ⟨(0, 0), by simp [c1, c2], by simp [show ¬ (vs.length : Int) ≤ 5 by omega]⟩
    · rw [if_neg c1, if_neg c2, decide_eq_true (show (1 : Int) ≤ (vs.length : Int) by omega), decide_eq_true (show (vs.length : Int) ≤ 5 by omega)]
      cases h1 : within (-100000) 100000 vs with
      | false => exact ⟨(0, 0), by simp, by simp⟩
      | true =>
        by_cases he : (ws.length : Int) = (vs.length : Int)
        · cases h2 : within 1 100 ws with
          | false => exact ⟨(0, 0), by simp, by simp⟩
          | true =>
            simp only [he, decide_true, Bool.and_self, if_true, Bool.not_true, Bool.false_eq_true, if_false]
            have he' : vs.length = ws.length := by omega
            have hl : ws.length ≤ 5 := by omega
            obtain ⟨q, hq, e1⟩ := spec_l0 vs ws h1 h2 hl he' ws.length k 0 0 0 (by omega) (by omega) (by omega) (by omega) (by omega) (by omega)
            have e2 := impl_l0 vs ws ws h2 hl ws.length k 0 (by omega) (by omega)
            have e3 := impl_l1 vs ws h1 h2 hl he' ws.length (k - ws.length - 1) 0 0 0 (by omega) (by omega) (by omega) (by omega) (by omega) (by omega)
            have hb := sums_bound vs ws h1 h2 hl he' ws.length 0 0 0 (by omega) (by omega) (by omega) (by omega) (by omega)
            rw [← he]
            generalize sums vs ws ws.length 0 0 0 = s at *
            obtain ⟨a, b⟩ := s
            dsimp only at *
            have hm : mx a (wrap64 (-a)) = ((a.natAbs : Nat) : Int) := by
              have : wrap64 (-a) = -a := by unfold wrap64; omega
              rw [this]; unfold mx; split <;> omega
            obtain ⟨b, rfl⟩ := Int.eq_ofNat_of_zero_le (show 0 ≤ b by omega)
            have hg : impl_gcd.f (k - ws.length - 1 - ws.length - 1) a (b : Int) = some ((Nat.gcd a.natAbs b : Nat) : Int) := gcd_l0 b a b _ rfl (by omega) (by omega) (by omega)
            have e4 := spec_l2 a (b : Int) b a.natAbs q (by omega) (by omega)
            refine ⟨(wrap64 (Int.tdiv a ((Nat.gcd a.natAbs b : Nat) : Int)), wrap64 (Int.tdiv (b : Int) ((Nat.gcd a.natAbs b : Nat) : Int))), (e1.trans ?_), (e2.trans e3).trans ?_⟩
            · rw [hm]; exact e4
            · rw [hg]
              have : 0 < Nat.gcd a.natAbs b := Nat.gcd_pos_of_pos_right _ (by omega)
              simp only [Option.bind_some]
              rw [if_neg (by omega)]
        · exact ⟨(0, 0), by simp [he], by simp [he]⟩

theorem FnExactBlend : laws_FnExactBlend.Pure := by
  intro l0 l1 _ _ _ _ _ _
  refine ⟨60000000001 + 1, ?_⟩
  unfold laws_FnExactBlend.f
  by_cases hb : (l0.length : Int) > 1048576
  · rw [if_pos hb]
  · rw [if_neg hb]
    by_cases hb2 : (l1.length : Int) > 1048576
    · rw [if_pos hb2]
    · rw [if_neg hb2]
      obtain ⟨t, he, ht⟩ := both l0 l1 60000000001 (by omega) (by omega) (by omega)
      simp only [toInts l0 (60000000001 + 1) (by omega) (by omega), toInts l1 (60000000001 + 1) (by omega) (by omega), Option.bind_some, he, ht, if_true, bne_self_eq_false, laws_FnExactBlend.j0, Bool.false_eq_true, if_false, toInts l0 60000000001 (by omega) (by omega), toInts l1 60000000001 (by omega) (by omega), eqInts l0 60000000001 (by omega) (by omega), eqInts l1 60000000001 (by omega) (by omega)]

end Go.Proofs.Ytfpddfhndifnoab.Pure
