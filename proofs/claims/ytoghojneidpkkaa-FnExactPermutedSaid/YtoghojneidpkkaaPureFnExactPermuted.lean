/-
  The pure law of FnExactPermuted: both sides tell the same.
  Conditions: none.
-/
import Derived.Test.YtoghojneidpkkaaQFnExactPermutedx2
namespace Go.Proofs.Ytoghojneidpkkaa.Pure
open Go.RowKit Go.Proofs.Ytoghojneidpkkaa.PFnExactPermuted Go.Proofs.YtoghojneidpkkaaW.PrintWords Go.Proofs.YtoghojneidpkkaaW.PrintLast

theorem wrap_nat {i : Nat} (h : i < 9223372036854775807) : wrap64 ((i : Int) + 1) = ((i + 1 : Nat) : Int) := by
  unfold wrap64; omega
theorem wrap_id {x : Int} (h0 : -9000000000000000000 ≤ x) (h1 : x ≤ 9000000000000000000) : wrap64 x = x := by unfold wrap64; omega

theorem toInts_l0 (xs : List Int) (hn : xs.length ≤ 140737488351232) : ∀ (d k i : Nat) (ys : List Int), i + d = xs.length → d < k → ys.length = xs.length → ys.take i = xs.take i →
    laws_toInt64S.l0 k xs ys (i : Int) = some xs := by
  intro d
  induction d with
  | zero =>
    intro k i ys hi hk hl ht
    obtain ⟨k, rfl⟩ : ∃ m, k = m + 1 := ⟨k - 1, by omega⟩
    rw [List.take_of_length_le (by omega), List.take_of_length_le (by omega)] at ht
    simp only [laws_toInt64S.l0]
    rw [if_neg (by omega), ht]
  | succ d ih =>
    intro k i ys hi hk hl ht
    obtain ⟨k, rfl⟩ : ∃ m, k = m + 1 := ⟨k - 1, by omega⟩
    have hlt : i < xs.length := by omega
    simp only [laws_toInt64S.l0]
    rw [if_pos (by omega), if_pos (by omega), if_pos (by omega), rd_nat hlt, wrap_nat (by omega), Int.toNat_natCast]
    refine ih k (i + 1) _ (by omega) (by omega) (by rw [List.length_set]; exact hl) ?_
    rw [List.take_succ_eq_append_getElem (by rw [List.length_set]; omega), List.take_succ_eq_append_getElem hlt, List.take_set_of_le (Nat.le_refl i), ht, List.getElem_set_self]
theorem toInts (xs : List Int) (k : Nat) (hn : xs.length ≤ 1048576) (hk : xs.length < k) : laws_toInt64S.f k xs = some xs := by
  unfold laws_toInt64S.f
  rw [if_pos (by omega), if_pos (by omega)]
  exact toInts_l0 xs (by omega) xs.length k 0 _ (by omega) hk (by simp) rfl

theorem eqInts_l0 (xs : List Int) (hn : xs.length ≤ 140737488351232) : ∀ (d k i : Nat), i + d = xs.length → d < k → laws_eqInt64S.l0 k xs xs (i : Int) = some true := by
  intro d
  induction d with
  | zero =>
    intro k i hi hk
    obtain ⟨k, rfl⟩ : ∃ m, k = m + 1 := ⟨k - 1, by omega⟩
    simp only [laws_eqInt64S.l0]
    rw [if_neg (by omega)]
  | succ d ih =>
    intro k i hi hk
    obtain ⟨k, rfl⟩ : ∃ m, k = m + 1 := ⟨k - 1, by omega⟩
    simp only [laws_eqInt64S.l0]
    rw [if_pos (by omega), if_pos (by omega), if_pos (by omega), if_pos trivial, wrap_nat (by omega)]
    exact ih k (i + 1) (by omega) (by omega)
theorem eqInts (xs : List Int) (k : Nat) (hn : xs.length ≤ 140737488351232) (hk : xs.length < k) : laws_eqInt64S.f k xs xs = some true := by
  unfold laws_eqInt64S.f
  rw [if_pos rfl]
  exact eqInts_l0 xs hn xs.length k 0 (by omega) hk

def within (lo hi : Int) (xs : List Int) : Bool := xs.all fun x => decide (lo ≤ x) && decide (x ≤ hi)
theorem specIn (a b c : Int) : spec_l2In.f a b c = some (decide (b ≤ a) && decide (a ≤ c)) := by
  unfold spec_l2In.f; by_cases h : a ≥ b
  · rw [if_pos h, decide_eq_true (show b ≤ a from h), Bool.true_and]
  · rw [if_neg h, decide_eq_false (show ¬ b ≤ a from h), Bool.false_and]
theorem l15_l0 (lo hi : Int) (xs : List Int) (hn : xs.length ≤ 140737488351232) : ∀ (d k i : Nat), i + d = xs.length → d < k → spec_l15All.l0 k xs lo hi (i : Int) = some (within lo hi (xs.drop i)) := by
  intro d
  induction d with
  | zero =>
    intro k i hi' hk
    obtain ⟨k, rfl⟩ : ∃ m, k = m + 1 := ⟨k - 1, by omega⟩
    rw [List.drop_of_length_le (by omega)]
    simp only [spec_l15All.l0]
    rw [if_neg (by omega)]; rfl
  | succ d ih =>
    intro k i hi' hk
    obtain ⟨k, rfl⟩ : ∃ m, k = m + 1 := ⟨k - 1, by omega⟩
    have hlt : i < xs.length := by omega
    rw [List.drop_eq_getElem_cons hlt]
    simp only [spec_l15All.l0]
    rw [if_pos (by omega), if_pos (by omega), rd_nat hlt, wrap_nat (by omega), specIn, ih k (i + 1) (by omega) (by omega)]
    unfold within
    rw [List.all_cons]
    cases (decide (lo ≤ xs[i]) && decide (xs[i] ≤ hi)) <;> rfl
theorem l15 (lo hi n : Int) (xs : List Int) (k : Nat) (hn : xs.length ≤ 140737488351232) (hk : xs.length < k) : spec_l15All.f k xs n lo hi = some (decide ((xs.length : Int) = n) && within lo hi xs) := by
  unfold spec_l15All.f
  by_cases h : (xs.length : Int) = n
  · rw [if_pos h, decide_eq_true h, Bool.true_and]
    exact l15_l0 lo hi xs hn xs.length k 0 (by omega) hk
  · rw [if_neg h, decide_eq_false h, Bool.false_and]

def sml (l : List Int) : Prop := ∀ x ∈ l, -1000000 ≤ x ∧ x ≤ 1000000
theorem sml_all {l : List Int} (h : (l.all fun x => decide (-1000000 ≤ x) && decide (x ≤ 1000000)) = true) : sml l := by
  intro x hx
  have := List.all_eq_true.1 h x hx
  simpa using this
theorem rd_sml {l : List Int} (h : sml l) {i : Int} (h0 : 0 ≤ i) (h1 : i < (l.length : Int)) : -1000000 ≤ rd l i ∧ rd l i ≤ 1000000 := by
  have e : i = ((i.toNat : Nat) : Int) := by omega
  rw [e, rd_nat (show i.toNat < l.length by omega)]
  exact h _ (List.getElem_mem _)
theorem sm_bd (l : List Int) (h : sml l) (hl : l.length ≤ 1000) : ∀ i : Nat, i ≤ l.length → -1000000 * (i : Int) ≤ sm (l.take i) ∧ sm (l.take i) ≤ 1000000 * (i : Int)
  | 0, _ => by simp [sm]
  | i + 1, hi => by
    have ih := sm_bd l h hl i (by omega)
    have hr := rd_sml h (i := (i : Int)) (by omega) (by omega)
    rw [sm_snoc l i (by omega), wrap_id (by omega) (by omega)]
    omega
theorem ok18 (l : List Int) (k : Nat) (h1 : 1 ≤ l.length) (h8 : l.length ≤ 8) (hk : 100 ≤ k) : spec_l18Ok.f k l = some (okB l) := by
  unfold spec_l18Ok.f okB
  rw [if_pos (by omega), if_pos (by omega), l15 _ _ _ l k (by omega) (by omega), decide_eq_true rfl, decide_eq_true (show (l.length : Int) ≥ 1 by omega), decide_eq_true (show (l.length : Int) ≤ 8 by omega)]
  rfl
theorem ways (all : List Int) (hl : all.length ≤ 16) (hs : sml all) (want : Int) (hw0 : -100000000 ≤ want) (hw1 : want ≤ 100000000) : ∀ (d k l : Nat) (at_ sum : Int), at_ + d = (all.length : Int) → 0 ≤ at_ → d < k → l ≤ 16 → -1000000 * at_ ≤ sum → sum ≤ 1000000 * at_ →
    spec_l18Ways.f k all at_ (l : Int) (want - sum) = some (Ct all want l at_ sum) ∧ 0 ≤ (Ct all want l at_ sum).1 ∧ (Ct all want l at_ sum).1 ≤ 2 ^ d ∧ 0 ≤ (Ct all want l at_ sum).2 ∧ (Ct all want l at_ sum).2 ≤ 2 ^ d
  | d, 0, _, _, _, _, _, hk, _, _, _ => absurd hk (by omega)
  | d, k + 1, 0, at_, sum, ha, h0, hk, h16, s0, s1 => by
    have hp : (1 : Int) ≤ 2 ^ d := by
      have := Nat.one_le_two_pow (n := d)
      have h2 : ((2 ^ d : Nat) : Int) = 2 ^ d := by simp
      omega
    simp only [spec_l18Ways.f]
    rw [if_pos (by simp)]
    unfold Ct
    by_cases c : want ≤ sum
    · rw [if_pos (by omega), if_pos c]; exact ⟨rfl, by simp, by simpa using hp, by simp, by simpa using hp⟩
    · rw [if_neg (by omega), if_neg c]; exact ⟨rfl, by simp, by simp; omega, by simp, by simpa using hp⟩
  | d, k + 1, l + 1, at_, sum, ha, h0, hk, h16, s0, s1 => by
    have hp : (1 : Int) ≤ 2 ^ d := by
      have := Nat.one_le_two_pow (n := d)
      have h2 : ((2 ^ d : Nat) : Int) = 2 ^ d := by simp
      omega
    simp only [spec_l18Ways.f]
    rw [if_neg (by omega), wrap_id (x := (all.length : Int) - at_) (by omega) (by omega)]
    by_cases c : (all.length : Int) - at_ < ((l + 1 : Nat) : Int)
    · rw [if_pos c]
      have e : Ct all want (l + 1) at_ sum = (0, 0) := by
        unfold Ct
        rw [show ((all.length : Int) - l - at_).toNat = 0 from by omega]
        rfl
      rw [e]
      exact ⟨rfl, by simp, by simp; omega, by simp, by simp; omega⟩
    · rw [if_neg c, if_pos h0, if_pos (by omega)]
      obtain ⟨d, rfl⟩ : ∃ m, d = m + 1 := ⟨d - 1, by omega⟩
      have hr := rd_sml hs h0 (show at_ < (all.length : Int) by omega)
      have hd : d ≤ 15 := by omega
      have hb : (2 : Int) ^ d ≤ 65536 := by
        have h1 : 2 ^ d ≤ 2 ^ 16 := Nat.pow_le_pow_right (by omega) (by omega)
        have h2 : ((2 ^ d : Nat) : Int) = 2 ^ d := by simp
        have h3 : (2 : Nat) ^ 16 = 65536 := by decide
        omega
      obtain ⟨a1, a2, a3, a4, a5⟩ := ways all hl hs want hw0 hw1 d k l (at_ + 1) (sum + rd all at_) (by omega) (by omega) (by omega) (by omega) (by omega) (by omega)
      obtain ⟨b1, b2, b3, b4, b5⟩ := ways all hl hs want hw0 hw1 d k (l + 1) (at_ + 1) sum (by omega) (by omega) (by omega) (by omega) (by omega) (by omega)
      have e : Ct all want (l + 1) at_ sum = ((Ct all want l (at_ + 1) (sum + rd all at_)).1 + (Ct all want (l + 1) (at_ + 1) sum).1, (Ct all want l (at_ + 1) (sum + rd all at_)).2 + (Ct all want (l + 1) (at_ + 1) sum).2) := by
        have e1 : ((all.length : Int) - l - at_).toNat = ((all.length : Int) - l - (at_ + 1)).toNat + 1 := by omega
        have e2 : wrap64 (sum + rd all at_) = sum + rd all at_ := wrap_id (by omega) (by omega)
        conv => lhs; unfold Ct
        rw [e1]
        simp only [lp]
        rw [e2]
        rfl
      rw [wrap_id (x := at_ + 1) (by omega) (by omega), wrap_id (x := ((l + 1 : Nat) : Int) - 1) (by omega) (by omega), wrap_id (x := want - sum - rd all at_) (by omega) (by omega),
        show ((l + 1 : Nat) : Int) - 1 = (l : Int) from by omega, show want - sum - rd all at_ = want - (sum + rd all at_) from by omega, a1, b1]
      simp only [Option.bind_some]
      rw [wrap_id (by omega) (by omega), wrap_id (by omega) (by omega), e, Int.pow_succ]
      exact ⟨rfl, by dsimp only; omega, by dsimp only; omega, by dsimp only; omega, by dsimp only; omega⟩
theorem sum_loop (a b : List Int) (r : Option (Int × Int)) (hl : a.length ≤ 8) (R : ∀ k, 100 ≤ k → spec_Permuted.l0 (k + 1) a b (sm a) (a.length : Int) = r) : ∀ (d k i : Nat), i + d = a.length → d + 101 ≤ k → spec_Permuted.l0 k a b (sm (a.take i)) (i : Int) = r := by
  intro d
  induction d with
  | zero =>
    intro k i hi hk
    obtain ⟨k, rfl⟩ : ∃ m, k = m + 1 := ⟨k - 1, by omega⟩
    obtain rfl : i = a.length := by omega
    rw [List.take_length]
    exact R k (by omega)
  | succ d ih =>
    intro k i hi hk
    obtain ⟨k, rfl⟩ : ∃ m, k = m + 1 := ⟨k - 1, by omega⟩
    simp only [spec_Permuted.l0]
    rw [if_pos (by omega), if_pos (by omega), ← sm_snoc a i (by omega), wrap_nat (by omega)]
    exact ih k (i + 1) (by omega) (by omega)
theorem spec_no (a b : List Int) (k : Nat) (hk : 1000 ≤ k) : spec_Permuted.j0 k a b true = some (0, 0) := by
  obtain ⟨k, rfl⟩ : ∃ m, k = m + 1 := ⟨k - 1, by omega⟩
  simp only [spec_Permuted.j0]
  rfl
theorem same (a b : List Int) (k : Nat) (hk : 1000 ≤ k) : ∃ r, spec_Permuted.f k a b = some r ∧ impl_Permuted.f k a b = some r := by
  have hN : ∀ l : List Int, ¬ (1 ≤ l.length ∧ l.length ≤ 8) → okB l = false := fun l h => by
    cases hb : okB l with
    | false => rfl
    | true => exact absurd (okB_len hb) h
  have hS : ∀ l : List Int, okB l = true → sml l := fun l h => by
    unfold okB at h
    simp only [Bool.and_eq_true] at h
    exact sml_all h.2.2
  unfold spec_Permuted.f impl_Permuted.f
  rw [spec_no a b k hk]
  by_cases a1 : (a.length : Int) < 1
  · rw [if_pos a1, hN a (by omega)]; exact ⟨_, rfl, rfl⟩
  rw [if_neg a1]
  by_cases a8 : (a.length : Int) > 8
  · rw [if_pos a8, hN a (by omega)]; exact ⟨_, rfl, rfl⟩
  rw [if_neg a8]
  by_cases b1 : (b.length : Int) < 1
  · rw [if_pos b1, hN b (by omega)]; refine ⟨_, rfl, ?_⟩; split <;> rfl
  rw [if_neg b1]
  by_cases b8 : (b.length : Int) > 8
  · rw [if_pos b8, hN b (by omega)]; refine ⟨_, rfl, ?_⟩; split <;> rfl
  rw [if_neg b8, ok18 a k (by omega) (by omega) (by omega), ok18 b k (by omega) (by omega) (by omega)]
  simp only [Option.bind_some]
  by_cases oa : okB a = true
  · rw [if_pos oa, if_pos oa]
    by_cases ob : okB b = true
    · rw [if_pos ob, ob]
      have ha := hS a oa
      have hb := hS b ob
      have hsm := sm_bd a ha (by omega) a.length (Nat.le_refl _)
      rw [List.take_length] at hsm
      have hab : sml (a ++ b) := fun x hx => by
        rcases List.mem_append.1 hx with h | h
        · exact ha x h
        · exact hb x h
      have hlen : (a ++ b).length = a.length + b.length := List.length_append ..
      obtain ⟨k, rfl⟩ : ∃ m, k = m + 1 := ⟨k - 1, by omega⟩
      have W := fun (k : Nat) (hk : 100 ≤ k) => ways (a ++ b) (by omega) hab (sm a) (by omega) (by omega) (a ++ b).length k a.length 0 0 (by omega) (by omega) (by omega) (by omega) (by omega) (by omega)
      have W1 := W 100 (Nat.le_refl _)
      have hb2 : (2 : Int) ^ (a ++ b).length ≤ 65536 := by
        have h1 : 2 ^ (a ++ b).length ≤ 2 ^ 16 := Nat.pow_le_pow_right (by omega) (by omega)
        have h2 : ((2 ^ (a ++ b).length : Nat) : Int) = 2 ^ (a ++ b).length := by simp
        have h3 : (2 : Nat) ^ 16 = 65536 := by decide
        omega
      rw [wrap_id (by omega) (by omega), wrap_id (by omega) (by omega)]
      refine ⟨_, ?_, rfl⟩
      simp only [spec_Permuted.j0]
      rw [if_neg (by decide)]
      have L := sum_loop a b (some ((Ct (a ++ b) (sm a) a.length 0 0).1, (Ct (a ++ b) (sm a) a.length 0 0).2)) (by omega) (fun k hk => by
        simp only [spec_Permuted.l0]
        rw [if_neg (by omega)]
        simp only [Option.bind_some, List.length_nil, List.nil_append]
        rw [if_pos (by omega), if_pos (by omega)]
        have := (W k hk).1
        rw [Int.sub_zero] at this
        rw [this]
        rfl) a.length k 0 (by omega) (by omega)
      exact L
    · rw [if_neg ob, Bool.eq_false_iff.mpr ob]
      exact ⟨_, spec_no a b k hk, rfl⟩
  · rw [if_neg oa, if_neg oa]; exact ⟨_, rfl, rfl⟩
theorem FnExactPermuted : laws_FnExactPermuted.Pure := by
  intro a b _ ha _ _ hb _
  refine ⟨1048700, ?_⟩
  generalize hk : 1048700 = k
  have hk' : 1048700 ≤ k := by omega
  clear hk
  unfold laws_FnExactPermuted.f
  by_cases h1 : (a.length : Int) > 1048576
  · rw [if_pos h1]
  rw [if_neg h1]
  by_cases h2 : (b.length : Int) > 1048576
  · rw [if_pos h2]
  rw [if_neg h2]
  obtain ⟨r, hs, hi⟩ := same a b k (by omega)
  have ta := toInts a k (by omega) (by omega)
  have tb := toInts b k (by omega) (by omega)
  simp only [ta, tb, hs, hi, Option.bind_some]
  rw [if_pos trivial]
  obtain ⟨k, rfl⟩ : ∃ m, k = m + 1 := ⟨k - 1, by omega⟩
  simp only [laws_FnExactPermuted.j0, bne_self_eq_false]
  rw [if_neg (by decide), toInts a k (by omega) (by omega)]
  simp only [Option.bind_some]
  rw [eqInts a k (by omega) (by omega)]
  simp only [Option.bind_some]
  rw [if_pos trivial, toInts b k (by omega) (by omega)]
  simp only [Option.bind_some]
  rw [eqInts b k (by omega) (by omega)]
  rfl

end Go.Proofs.Ytoghojneidpkkaa.Pure
