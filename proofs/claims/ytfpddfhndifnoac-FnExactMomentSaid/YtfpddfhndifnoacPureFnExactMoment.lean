/- FnExactMoment over numbers and lists alone: the two moments are one. Conditions: none. -/
import Derived.Test.YtfpddfhndifnoacPFnExactMomentx3
namespace Go.Proofs.Ytfpddfhndifnoac.Pure
open Go.RowKit Go.Proofs.Ytfpddfhndifnoac.PFnExactMoment Go.Proofs.YtfpddfhndifnoacW.PrintWords Go.Proofs.YtfpddfhndifnoacW.PrintLast Go.Proofs.YtfpddfhndifnoacW.PrintMore
set_option linter.unusedVariables false
set_option linter.unusedSimpArgs false

theorem rd_nat {xs : List Int} {i : Nat} (h : i < xs.length) : rd xs (i : Int) = xs[i] := by
  unfold rd; rw [Int.toNat_natCast, List.getD_eq_getElem?_getD, List.getElem?_eq_getElem h]; rfl
theorem wrap_nat {i : Nat} (h : i < 9223372036854775807) : wrap64 ((i : Int) + 1) = ((i + 1 : Nat) : Int) := by
  unfold wrap64; omega

theorem toInts_l0 (xs : List Int) (hn : xs.length ≤ 140737488351232) : ∀ (d k i : Nat) (ys : List Int), i + d = xs.length → d < k → ys.length = xs.length → ys.take i = xs.take i →
    laws_toInt64S.l0 k xs ys (i : Int) = some xs := by
  intro d
  induction d with
  | zero =>
    intro k i ys hi hk hl ht
    obtain ⟨k, rfl⟩ : ∃ m, k = m + 1 := ⟨k - 1, by omega⟩
    rw [List.take_of_length_le (by omega), List.take_of_length_le (by omega)] at ht
    simp only [laws_toInt64S.l0]
    rw [if_neg (by omega), ht]
  | succ d ih =>
    intro k i ys hi hk hl ht
    obtain ⟨k, rfl⟩ : ∃ m, k = m + 1 := ⟨k - 1, by omega⟩
    have hlt : i < xs.length := by omega
    simp only [laws_toInt64S.l0]
    rw [if_pos (by omega), if_pos (by omega), if_pos (by omega), rd_nat hlt, wrap_nat (by omega), Int.toNat_natCast]
    refine ih k (i + 1) _ (by omega) (by omega) (by rw [List.length_set]; exact hl) ?_
    rw [List.take_succ_eq_append_getElem (by rw [List.length_set]; omega), List.take_succ_eq_append_getElem hlt, List.take_set_of_le (Nat.le_refl i), ht, List.getElem_set_self]
theorem toInts (xs : List Int) (k : Nat) (hn : xs.length ≤ 1048576) (hk : xs.length < k) : laws_toInt64S.f k xs = some xs := by
  unfold laws_toInt64S.f
  rw [if_pos (by omega), if_pos (by omega)]
  exact toInts_l0 xs (by omega) xs.length k 0 _ (by omega) hk (by simp) rfl

theorem eqInts_l0 (xs : List Int) (hn : xs.length ≤ 140737488351232) : ∀ (d k i : Nat), i + d = xs.length → d < k → laws_eqInt64S.l0 k xs xs (i : Int) = some true := by
  intro d
  induction d with
  | zero =>
    intro k i hi hk
    obtain ⟨k, rfl⟩ : ∃ m, k = m + 1 := ⟨k - 1, by omega⟩
    simp only [laws_eqInt64S.l0]
    rw [if_neg (by omega)]
  | succ d ih =>
    intro k i hi hk
    obtain ⟨k, rfl⟩ : ∃ m, k = m + 1 := ⟨k - 1, by omega⟩
    simp only [laws_eqInt64S.l0]
    rw [if_pos (by omega), if_pos (by omega), if_pos (by omega), if_pos trivial, wrap_nat (by omega)]
    exact ih k (i + 1) (by omega) (by omega)
theorem eqInts (xs : List Int) (k : Nat) (hn : xs.length ≤ 140737488351232) (hk : xs.length < k) : laws_eqInt64S.f k xs xs = some true := by
  unfold laws_eqInt64S.f
  rw [if_pos rfl]
  exact eqInts_l0 xs hn xs.length k 0 (by omega) hk

theorem in_eq : impl_in.f = spec_l2In.f := by funext a b c; rfl
theorem specIn (a b c : Int) : spec_l2In.f a b c = some (decide (b ≤ a) && decide (a ≤ c)) := by
  unfold spec_l2In.f; by_cases h : a ≥ b
  · rw [if_pos h, decide_eq_true (show b ≤ a from h), Bool.true_and]
  · rw [if_neg h, decide_eq_false (show ¬ b ≤ a from h), Bool.false_and]

/-- masses and tracers from some place on, s the masses before -/
def rg : List Int → List Int → Int → Bool
  | [], _, s => decide (s ≤ 1000000000)
  | _ :: _, [], _ => false
  | m :: r, t :: q, s => (decide (0 ≤ m) && decide (m ≤ 1000000000)) && ((decide (0 ≤ t) && decide (t ≤ m)) && rg r q (wrap64 (s + m)))
theorem specR_l0 (M T : List Int) (hn : M.length ≤ 140737488351232) (he : T.length = M.length) : ∀ (d k i : Nat) (s : Int), i + d = M.length → d < k → spec_RingOk.l0 k (M.length : Int) s (i : Int) M T = some (rg (M.drop i) (T.drop i) s) := by
  intro d
  induction d with
  | zero =>
    intro k i s hi hk
    obtain ⟨k, rfl⟩ : ∃ m, k = m + 1 := ⟨k - 1, by omega⟩
    rw [List.drop_of_length_le (show M.length ≤ i by omega)]
    simp only [spec_RingOk.l0, rg]
    rw [if_neg (by omega)]
  | succ d ih =>
    intro k i s hi hk
    obtain ⟨k, rfl⟩ : ∃ m, k = m + 1 := ⟨k - 1, by omega⟩
    have hlt : i < M.length := by omega
    have hlt' : i < T.length := by omega
    rw [List.drop_eq_getElem_cons hlt, List.drop_eq_getElem_cons hlt']
    simp only [spec_RingOk.l0, rg]
    rw [if_pos (by omega), if_pos (by omega), if_pos (by omega), rd_nat hlt, specIn]
    simp only [Option.bind_some]
    rw [if_pos (show (i : Int) < (T.length : Int) by omega), rd_nat hlt', wrap_nat (by omega), ih k (i + 1) _ (by omega) (by omega), specIn]
    cases (decide (0 ≤ M[i]) && decide (M[i] ≤ 1000000000)) with
    | false => rfl
    | true =>
      cases (decide (0 ≤ T[i]) && decide (T[i] ≤ M[i])) with
      | false => rfl
      | true => rfl
theorem implR_l0 (M T : List Int) : ∀ (k : Nat) (s i : Int), impl_RingOk.l0 k s M (M.length : Int) i M T = spec_RingOk.l0 k (M.length : Int) s i M T := by
  intro k
  induction k with
  | zero => intro s i; rfl
  | succ k ih => intro s i; simp only [impl_RingOk.l0, spec_RingOk.l0, ih, in_eq]
def ringOk (M T : List Int) : Bool := decide ((1 : Int) ≤ M.length) && (decide ((M.length : Int) ≤ 200) && (decide (T.length = M.length) && rg M T 0))
theorem specR (M T : List Int) (k : Nat) (hk : 200 < k) : spec_RingOk.f (k + 1) M T = some (ringOk M T) := by
  unfold spec_RingOk.f ringOk
  simp only [spec_RingOk.j0]
  by_cases h1 : (M.length : Int) < 1
  · rw [if_pos h1, decide_eq_false (by omega)]; rfl
  · rw [if_neg h1, decide_eq_true (show (1 : Int) ≤ M.length by omega)]
    by_cases h2 : (M.length : Int) > 200
    · rw [if_pos h2, decide_eq_false (by omega)]; rfl
    · rw [if_neg h2, decide_eq_true (show (M.length : Int) ≤ 200 by omega)]
      by_cases h3 : T.length = M.length
      · rw [if_neg (by simp [h3]), decide_eq_true h3]
        exact specR_l0 M T (by omega) h3 M.length k 0 0 (by omega) (by omega)
      · rw [if_pos (by simp; omega), decide_eq_false h3]; rfl
theorem implR (M T : List Int) (k : Nat) (hk : 200 < k) : impl_RingOk.f (k + 1) M T = some (ringOk M T) := by
  unfold impl_RingOk.f ringOk
  rw [in_eq, specIn]
  simp only [impl_RingOk.j0, Option.bind_some, implR_l0]
  by_cases h1 : (1 : Int) ≤ M.length
  · rw [decide_eq_true h1]
    by_cases h2 : (M.length : Int) ≤ 200
    · rw [decide_eq_true h2]
      by_cases h3 : T.length = M.length
      · rw [Bool.and_self, if_pos rfl, if_neg (by simp [h3]), decide_eq_true h3]
        exact specR_l0 M T (by omega) h3 M.length k 0 0 (by omega) (by omega)
      · rw [Bool.and_self, if_pos rfl, if_pos (by simp; omega), decide_eq_false h3]; rfl
    · rw [decide_eq_false h2]; rfl
  · rw [decide_eq_false h1]; rfl

/-- both sums -/
def sums : List Int → List Int → Int → Int → Int × Int
  | m :: r, t :: q, a, b => sums r q (wrap64 (a + m)) (wrap64 (b + t))
  | _, _, a, b => (a, b)
theorem specM_l0 (M T : List Int) (h : ringOk M T = true) (hn : M.length ≤ 200) (he : T.length = M.length) : ∀ (d k i : Nat) (a b : Int), i + d = M.length → d + 201 < k → spec_Moment.l0 k a b (i : Int) M T = some (sums (M.drop i) (T.drop i) a b) := by
  intro d
  induction d with
  | zero =>
    intro k i a b hi hk
    obtain ⟨k, rfl⟩ : ∃ m, k = m + 1 := ⟨k - 1, by omega⟩
    rw [List.drop_of_length_le (show M.length ≤ i by omega)]
    simp only [spec_Moment.l0]
    rw [if_neg (by omega)]; rfl
  | succ d ih =>
    intro k i a b hi hk
    obtain ⟨k, rfl⟩ : ∃ m, k = m + 1 + 1 := ⟨k - 2, by omega⟩
    have hlt : i < M.length := by omega
    have hlt' : i < T.length := by omega
    rw [List.drop_eq_getElem_cons hlt, List.drop_eq_getElem_cons hlt']
    simp only [spec_Moment.l0, sums]
    rw [if_pos (by omega), specR M T k (by omega), h]
    simp only [Option.bind_some, if_true]
    rw [if_pos (by omega), if_pos (by omega), rd_nat hlt, rd_nat hlt', wrap_nat (by omega)]
    exact ih (k + 1) (i + 1) _ _ (by omega) (by omega)
theorem implM_l0 (M T : List Int) (hn : M.length ≤ 200) (he : T.length = M.length) : ∀ (d k i : Nat) (a b : Int), i + d = M.length → d < k → impl_Moment.l0 k a b (M.length : Int) (i : Int) M T = some (sums (M.drop i) (T.drop i) a b) := by
  intro d
  induction d with
  | zero =>
    intro k i a b hi hk
    obtain ⟨k, rfl⟩ : ∃ m, k = m + 1 := ⟨k - 1, by omega⟩
    rw [List.drop_of_length_le (show M.length ≤ i by omega)]
    simp only [impl_Moment.l0]
    rw [if_neg (by omega)]; rfl
  | succ d ih =>
    intro k i a b hi hk
    obtain ⟨k, rfl⟩ : ∃ m, k = m + 1 := ⟨k - 1, by omega⟩
    have hlt : i < M.length := by omega
    have hlt' : i < T.length := by omega
    rw [List.drop_eq_getElem_cons hlt, List.drop_eq_getElem_cons hlt']
    simp only [impl_Moment.l0, sums]
    rw [if_pos (by omega), if_pos (by omega), if_pos (by omega), if_pos (by omega), rd_nat hlt, rd_nat hlt', wrap_nat (by omega)]
    exact ih k (i + 1) _ _ (by omega) (by omega)
theorem both (M T : List Int) (k : Nat) (hk : 1000 < k) : ∃ r, spec_Moment.f (k + 1) M T = some r ∧ impl_Moment.f (k + 1) M T = some r := by
  unfold spec_Moment.f impl_Moment.f
  rw [implR M T k (by omega)]
  cases h : ringOk M T with
  | false =>
    refine ⟨(0, 0), ?_, rfl⟩
    obtain ⟨k, rfl⟩ : ∃ m, k = m + 1 := ⟨k - 1, by omega⟩
    simp only [spec_Moment.l0]
    rw [specR M T k (by omega), h]
    simp
  | true =>
    have h' := h
    unfold ringOk at h'
    simp only [Bool.and_eq_true, decide_eq_true_eq] at h'
    obtain ⟨_, h2, h3, _⟩ := h'
    exact ⟨_, specM_l0 M T h (by omega) h3 M.length (k + 1) 0 0 0 (by omega) (by omega), implM_l0 M T (by omega) h3 M.length (k + 1) 0 0 0 (by omega) (by omega)⟩
theorem FnExactMoment (M T : List Int) (hM : M.length ≤ maxLen) (hT : T.length ≤ maxLen) : ∃ k, laws_FnExactMoment.f k M T = some true := by
  refine ⟨1048580 + 1, ?_⟩
  have hmx : maxLen ≤ 9223372036854775807 := by decide
  have hw : wrap64 (1048576 - (M.length : Int)) = 1048576 - (M.length : Int) := by unfold wrap64; omega
  unfold laws_FnExactMoment.f laws_szRing.f laws_szInt64S.f
  rw [hw]
  by_cases hb : 1048576 - (M.length : Int) < 0
  · rw [if_pos hb]; rfl
  · rw [if_neg hb]
    have hw2 : wrap64 (1048576 - (M.length : Int) - (T.length : Int)) = 1048576 - (M.length : Int) - (T.length : Int) := by unfold wrap64; omega
    simp only [Option.bind_some, if_neg hb, hw2]
    by_cases hb2 : 1048576 - (M.length : Int) - (T.length : Int) < 0
    · rw [if_pos hb2]; rfl
    · rw [if_neg hb2]
      obtain ⟨r, h1, h2⟩ := both M T 1048580 (by omega)
      simp only [Option.bind_some, if_neg hb2, laws_toRing.f, laws_eqRing.f, toInts M (1048580 + 1) (by omega) (by omega), toInts T (1048580 + 1) (by omega) (by omega), h1, h2, bne_self_eq_false, Bool.false_eq_true, if_false, if_true, laws_FnExactMoment.j0, toInts M 1048580 (by omega) (by omega), toInts T 1048580 (by omega) (by omega), eqInts M 1048580 (by omega) (by omega), eqInts T 1048580 (by omega) (by omega)]

end Go.Proofs.Ytfpddfhndifnoac.Pure
