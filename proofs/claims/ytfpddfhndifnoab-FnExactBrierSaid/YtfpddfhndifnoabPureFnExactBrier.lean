/- FnExactBrier over numbers and lists alone: the two scores are one. Conditions: none. -/
import Derived.Test.YtfpddfhndifnoabPFnExactBrierx2
namespace Go.Proofs.Ytfpddfhndifnoab.Pure
open Go.RowKit Go.Proofs.Ytfpddfhndifnoab.PFnExactBrier Go.Proofs.YtfpddfhndifnoabW.PrintWords Go.Proofs.YtfpddfhndifnoabW.PrintLast Go.Proofs.YtfpddfhndifnoabW.PrintMore
set_option linter.unusedVariables false
set_option linter.unusedSimpArgs false

theorem rd_nat {xs : List Int} {i : Nat} (h : i < xs.length) : rd xs (i : Int) = xs[i] := by
  unfold rd; rw [Int.toNat_natCast, List.getD_eq_getElem?_getD, List.getElem?_eq_getElem h]; rfl
theorem wrap_nat {i : Nat} (h : i < 9223372036854775807) : wrap64 ((i : Int) + 1) = ((i + 1 : Nat) : Int) := by
  unfold wrap64; omega

theorem specIn (a b c : Int) : spec_l2In.f a b c = some (decide (b ≤ a) && decide (a ≤ c)) := by
  unfold spec_l2In.f; by_cases h : a ≥ b
  · rw [if_pos h, decide_eq_true (show b ≤ a from h), Bool.true_and]
  · rw [if_neg h, decide_eq_false (show ¬ b ≤ a from h), Bool.false_and]
theorem implIn (a b c : Int) : impl_in.f a b c = some (decide (b ≤ a) && decide (a ≤ c)) := by
  unfold impl_in.f; by_cases h : a ≥ b
  · rw [if_pos h, decide_eq_true (show b ≤ a from h), Bool.true_and]
  · rw [if_neg h, decide_eq_false (show ¬ b ≤ a from h), Bool.false_and]
theorem rdT_nat {xs : List S75} {i : Nat} (h : i < xs.length) : rd_T75 xs (i : Int) = xs[i] := by
  unfold rd_T75; rw [Int.toNat_natCast, List.getD_eq_getElem?_getD, List.getElem?_eq_getElem h]; rfl
def told (xs : List S75) : Bool := xs.all fun x => decide (0 ≤ x.f0) && decide (x.f0 ≤ 100)
theorem specTold_l0 (xs : List S75) (hn : xs.length ≤ 140737488351232) : ∀ (d k i : Nat), i + d = xs.length → d < k → spec_l18ToldOk.l0 k xs (i : Int) = some (told (xs.drop i)) := by
  intro d
  induction d with
  | zero =>
    intro k i hi hk
    obtain ⟨k, rfl⟩ : ∃ m, k = m + 1 := ⟨k - 1, by omega⟩
    rw [List.drop_of_length_le (by omega)]
    simp only [spec_l18ToldOk.l0]
    rw [if_neg (by omega)]; rfl
  | succ d ih =>
    intro k i hi hk
    obtain ⟨k, rfl⟩ : ∃ m, k = m + 1 := ⟨k - 1, by omega⟩
    have hlt : i < xs.length := by omega
    rw [List.drop_eq_getElem_cons hlt]
    simp only [spec_l18ToldOk.l0]
    rw [if_pos (by omega), if_pos (by omega), rdT_nat hlt, wrap_nat (by omega), specIn, ih k (i + 1) (by omega) (by omega)]
    unfold told
    rw [List.all_cons]
    cases (decide (0 ≤ xs[i].f0) && decide (xs[i].f0 ≤ 100)) <;> rfl
theorem implTold_l0 (xs : List S75) (hn : xs.length ≤ 140737488351232) : ∀ (d k i : Nat), i + d = xs.length → d < k → impl_probsOk.l0 k xs (xs.length : Int) (i : Int) = some (told (xs.drop i)) := by
  intro d
  induction d with
  | zero =>
    intro k i hi hk
    obtain ⟨k, rfl⟩ : ∃ m, k = m + 1 := ⟨k - 1, by omega⟩
    rw [List.drop_of_length_le (by omega)]
    simp only [impl_probsOk.l0]
    rw [if_neg (by omega)]; rfl
  | succ d ih =>
    intro k i hi hk
    obtain ⟨k, rfl⟩ : ∃ m, k = m + 1 := ⟨k - 1, by omega⟩
    have hlt : i < xs.length := by omega
    rw [List.drop_eq_getElem_cons hlt]
    simp only [impl_probsOk.l0]
    rw [if_pos (by omega), if_pos (by omega), if_pos (by omega), rdT_nat hlt, wrap_nat (by omega), implIn, ih k (i + 1) (by omega) (by omega)]
    unfold told
    rw [List.all_cons]
    cases (decide (0 ≤ xs[i].f0) && decide (xs[i].f0 ≤ 100)) <;> rfl
/-- the score -/
def score : List S75 → Int → Int
  | [], s => s
  | x :: r, s => score r (if x.f1 = true then wrap64 (s + wrap64 (wrap64 (x.f0 - 100) * wrap64 (x.f0 - 100))) else wrap64 (s + wrap64 (x.f0 * x.f0)))
theorem specScore_l0 (xs : List S75) (hn : xs.length ≤ 140737488351232) : ∀ (d k i : Nat) (s : Int), i + d = xs.length → d < k → spec_Brier.l0 k xs s (i : Int) = some (score (xs.drop i) s) := by
  intro d
  induction d with
  | zero =>
    intro k i s hi hk
    obtain ⟨k, rfl⟩ : ∃ m, k = m + 1 := ⟨k - 1, by omega⟩
    rw [List.drop_of_length_le (by omega)]
    simp only [spec_Brier.l0]
    rw [if_neg (by omega)]; rfl
  | succ d ih =>
    intro k i s hi hk
    obtain ⟨k, rfl⟩ : ∃ m, k = m + 1 := ⟨k - 1, by omega⟩
    have hlt : i < xs.length := by omega
    rw [List.drop_eq_getElem_cons hlt]
    simp only [spec_Brier.l0, score]
    rw [if_pos (by omega), if_pos (by omega), rdT_nat hlt, wrap_nat (by omega)]
    split <;> exact ih k (i + 1) _ (by omega) (by omega)
theorem implScore_l0 (xs : List S75) (hn : xs.length ≤ 140737488351232) : ∀ (d k i : Nat) (s : Int), i + d = xs.length → d < k → impl_Brier.l0 k s xs (xs.length : Int) (i : Int) = some (score (xs.drop i) s) := by
  intro d
  induction d with
  | zero =>
    intro k i s hi hk
    obtain ⟨k, rfl⟩ : ∃ m, k = m + 1 := ⟨k - 1, by omega⟩
    rw [List.drop_of_length_le (by omega)]
    simp only [impl_Brier.l0]
    rw [if_neg (by omega)]; rfl
  | succ d ih =>
    intro k i s hi hk
    obtain ⟨k, rfl⟩ : ∃ m, k = m + 1 := ⟨k - 1, by omega⟩
    have hlt : i < xs.length := by omega
    rw [List.drop_eq_getElem_cons hlt]
    simp only [impl_Brier.l0, score]
    rw [if_pos (by omega), if_pos (by omega), if_pos (by omega), rdT_nat hlt, wrap_nat (by omega)]
    split <;> exact ih k (i + 1) _ (by omega) (by omega)
def brierOf (xs : List S75) : Int := if xs.length ≤ 1000 ∧ told xs = true then score xs 0 else -1
theorem specBrier (xs : List S75) (k : Nat) (hn : xs.length ≤ 1048576) (hk : xs.length < k) : spec_Brier.f k xs = some (brierOf xs) := by
  unfold spec_Brier.f spec_l18ToldOk.f brierOf
  have e1 := specTold_l0 xs (by omega) xs.length k 0 (by omega) hk
  have e2 := specScore_l0 xs (by omega) xs.length k 0 0 (by omega) hk
  rw [List.drop_zero] at e1 e2
  by_cases h : xs.length ≤ 1000
  · rw [if_neg (by omega)]
    have e1' : spec_l18ToldOk.l0 k xs 0 = some (told xs) := e1
    have e2' : spec_Brier.l0 k xs 0 0 = some (score xs 0) := e2
    rw [e1', e2']
    cases ht : told xs <;> simp [h]
  · rw [if_pos (by omega)]; simp [h]
theorem implBrier (xs : List S75) (k : Nat) (hn : xs.length ≤ 1048576) (hk : xs.length < k) : impl_Brier.f k xs = some (brierOf xs) := by
  unfold impl_Brier.f impl_probsOk.f brierOf
  have e1 := implTold_l0 xs (by omega) xs.length k 0 (by omega) hk
  have e2 := implScore_l0 xs (by omega) xs.length k 0 0 (by omega) hk
  rw [List.drop_zero] at e1 e2
  by_cases h : xs.length ≤ 1000
  · rw [if_neg (by omega)]
    have e1' : impl_probsOk.l0 k xs (xs.length : Int) 0 = some (told xs) := e1
    have e2' : impl_Brier.l0 k 0 xs (xs.length : Int) 0 = some (score xs 0) := e2
    rw [e1', e2']
    cases ht : told xs <;> simp [h]
  · rw [if_pos (by omega)]; simp [h]

theorem rdA_nat {xs : List S77} {i : Nat} (h : i < xs.length) : rd_T77 xs (i : Int) = xs[i] := by
  unfold rd_T77; rw [Int.toNat_natCast, List.getD_eq_getElem?_getD, List.getElem?_eq_getElem h]; rfl
def conv (x : S77) : S75 := ⟨x.f0, x.f1⟩
theorem toProbs_l0 (xs : List S77) (hn : xs.length ≤ 140737488351232) : ∀ (d k i : Nat) (ys : List S75), i + d = xs.length → d < k → ys.length = xs.length → ys.take i = (xs.map conv).take i → laws_toProbS.l0 k xs ys (i : Int) = some (xs.map conv) := by
  intro d
  induction d with
  | zero =>
    intro k i ys hi hk hl ht
    obtain ⟨k, rfl⟩ : ∃ m, k = m + 1 := ⟨k - 1, by omega⟩
    rw [List.take_of_length_le (by omega), List.take_of_length_le (by rw [List.length_map]; omega)] at ht
    simp only [laws_toProbS.l0]
    rw [if_neg (by omega), ht]
  | succ d ih =>
    intro k i ys hi hk hl ht
    obtain ⟨k, rfl⟩ : ∃ m, k = m + 1 := ⟨k - 1, by omega⟩
    have hlt : i < xs.length := by omega
    simp only [laws_toProbS.l0, laws_toProb.f, Option.bind_some]
    rw [if_pos (by omega), if_pos (by omega), if_pos (by omega), rdA_nat hlt, wrap_nat (by omega), Int.toNat_natCast]
    refine ih k (i + 1) _ (by omega) (by omega) (by rw [List.length_set]; exact hl) ?_
    rw [List.take_succ_eq_append_getElem (by rw [List.length_set]; omega), List.take_succ_eq_append_getElem (by rw [List.length_map]; exact hlt), List.take_set_of_le (Nat.le_refl i), ht, List.getElem_set_self, List.getElem_map]
    rfl
theorem toProbs (xs : List S77) (k : Nat) (hn : xs.length ≤ 1048576) (hk : xs.length < k) : laws_toProbS.f k xs = some (xs.map conv) := by
  unfold laws_toProbS.f
  rw [if_pos (by omega), if_pos (by omega)]
  exact toProbs_l0 xs (by omega) xs.length k 0 _ (by omega) hk (by simp) rfl
theorem eqProbs_l0 (xs : List S75) (hn : xs.length ≤ 140737488351232) : ∀ (d k i : Nat), i + d = xs.length → d < k → laws_eqProbS.l0 k xs xs (i : Int) = some true := by
  intro d
  induction d with
  | zero =>
    intro k i hi hk
    obtain ⟨k, rfl⟩ : ∃ m, k = m + 1 := ⟨k - 1, by omega⟩
    simp only [laws_eqProbS.l0]
    rw [if_neg (by omega)]
  | succ d ih =>
    intro k i hi hk
    obtain ⟨k, rfl⟩ : ∃ m, k = m + 1 := ⟨k - 1, by omega⟩
    simp only [laws_eqProbS.l0, laws_eqProb.f, bne_self_eq_false, if_true, Bool.false_eq_true, if_false, Option.bind_some]
    rw [if_pos (by omega), if_pos (by omega), if_pos (by omega), wrap_nat (by omega)]
    exact ih k (i + 1) (by omega) (by omega)
theorem eqProbs (xs : List S75) (k : Nat) (hn : xs.length ≤ 140737488351232) (hk : xs.length < k) : laws_eqProbS.f k xs xs = some true := by
  unfold laws_eqProbS.f
  rw [if_pos rfl]
  exact eqProbs_l0 xs hn xs.length k 0 (by omega) hk

theorem FnExactBrier (l : List S77) (hm : l.length ≤ maxLen) : ∃ k, laws_FnExactBrier.f k l = some true := by
  refine ⟨1048580, ?_⟩
  unfold laws_FnExactBrier.f laws_szProbS.f
  have hmx : maxLen ≤ 9223372036854775807 := by decide
  have hw : wrap64 (1048576 - (l.length : Int)) = 1048576 - (l.length : Int) := by unfold wrap64; omega
  rw [hw]
  by_cases hb : 1048576 - (l.length : Int) < 0
  · rw [if_pos hb]; rfl
  · rw [if_neg hb]
    have hl : (l.map conv).length ≤ 1048576 := by rw [List.length_map]; omega
    simp only [Option.bind_some, if_neg hb, toProbs l 1048580 (by omega) (by omega), specBrier (l.map conv) 1048580 hl (by omega), implBrier (l.map conv) 1048580 hl (by omega), if_true, eqProbs (l.map conv) 1048580 (by omega) (by omega)]

end Go.Proofs.Ytfpddfhndifnoab.Pure
