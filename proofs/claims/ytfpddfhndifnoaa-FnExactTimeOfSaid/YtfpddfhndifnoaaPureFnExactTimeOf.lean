/- FnExactTimeOf over numbers alone: the two counts of minutes are one. Conditions: none. -/
import Derived.Test.YtfpddfhndifnoaaQFnExactTimeOfx4
namespace Go.Proofs.Ytfpddfhndifnoaa.Pure
open Go.RowKit Go.Proofs.Ytfpddfhndifnoaa.PFnExactTimeOf Go.Proofs.YtfpddfhndifnoaaW.PrintWords Go.Proofs.YtfpddfhndifnoaaW.PrintLast Go.Proofs.YtfpddfhndifnoaaW.PrintMore
set_option linter.unusedVariables false
set_option linter.unusedSimpArgs false

theorem rd_nat {xs : List Int} {i : Nat} (h : i < xs.length) : rd xs (i : Int) = xs[i] := by
  unfold rd; rw [Int.toNat_natCast, List.getD_eq_getElem?_getD, List.getElem?_eq_getElem h]; rfl
theorem wrap_nat {i : Nat} (h : i < 9223372036854775807) : wrap64 ((i : Int) + 1) = ((i + 1 : Nat) : Int) := by
  unfold wrap64; omega

def sd (y m : Int) : Int := if m = 2 then (if Int.tmod y 4 = 0 then (if y = 2100 then 28 else 29) else 28) else (if m = 4 then 30 else if m = 6 then 30 else if m = 9 then 30 else if m = 11 then 30 else 31)
theorem sd_eq (y m : Int) : spec_l2Days.f y m = some (sd y m) := by
  unfold spec_l2Days.f sd
  repeat' split
  all_goals rfl
theorem sd_le (y m : Int) : 28 ≤ sd y m ∧ sd y m ≤ 31 := by
  unfold sd
  repeat' split
  all_goals omega
theorem md_eq (y m : Int) (h : y < 2100) : impl_monthDays.f y m = some (sd y m) := by
  have hy : y ≠ 2100 := by omega
  rw [← sd_eq]
  unfold impl_monthDays.f spec_l2Days.f impl_leap.f
  rw [if_neg hy]
  by_cases h4 : Int.tmod y 4 = 0
  · rw [if_pos h4, h4]; rfl
  · rw [if_neg h4]
    simp only [Option.bind_some, beq_iff_eq, h4, if_false]
theorem in_eq : impl_in.f = spec_l2In.f := by funext a b c; rfl
theorem specIn (a b c : Int) : spec_l2In.f a b c = some (decide (b ≤ a) && decide (a ≤ c)) := by
  unfold spec_l2In.f; by_cases h : a ≥ b
  · rw [if_pos h, decide_eq_true (show b ≤ a from h), Bool.true_and]
  · rw [if_neg h, decide_eq_false (show ¬ b ≤ a from h), Bool.false_and]
theorem wrap_id {x : Int} (h0 : -1000000000 ≤ x) (h1 : x ≤ 1000000000) : wrap64 x = x := by unfold wrap64; omega
theorem l1_step (k : Nat) (x4 x5 x6 y mo d h mi : Int) (h6 : x6 ≤ 12) (h6' : 0 ≤ x6) (h4 : 0 ≤ x4) (h4' : x4 ≤ 100000000) :
    spec_TimeOf.l1 (k + 1) x4 x5 x6 y mo d h mi = spec_TimeOf.l1 k (x4 + sd x5 x6) x5 (x6 + 1) y mo d h mi := by
  have := sd_le x5 x6
  simp only [spec_TimeOf.l1]
  rw [if_pos h6, sd_eq, Option.bind_some, wrap_id (by omega) (by omega), wrap_id (by omega) (by omega)]
def T (y : Int) : Int := (y - 2000) * 365 + (y - 2000 + 3) / 4
theorem sum_year (y : Int) (h0 : 2000 ≤ y) (h1 : y < 2100) : T y + sd y 1 + sd y 2 + sd y 3 + sd y 4 + sd y 5 + sd y 6 + sd y 7 + sd y 8 + sd y 9 + sd y 10 + sd y 11 + sd y 12 = T (y + 1) := by
  have e1 : sd y 1 = 31 := rfl
  have e3 : sd y 3 = 31 := rfl
  have e4 : sd y 4 = 30 := rfl
  have e5 : sd y 5 = 31 := rfl
  have e6 : sd y 6 = 30 := rfl
  have e7 : sd y 7 = 31 := rfl
  have e8 : sd y 8 = 31 := rfl
  have e9 : sd y 9 = 30 := rfl
  have e10 : sd y 10 = 31 := rfl
  have e11 : sd y 11 = 30 := rfl
  have e12 : sd y 12 = 31 := rfl
  have e2 : sd y 2 = if Int.tmod y 4 = 0 then 29 else 28 := by
    unfold sd
    rw [if_pos rfl, if_neg (show ¬ y = 2100 by omega)]
  have ht : Int.tmod y 4 = y % 4 := Int.tmod_eq_emod_of_nonneg (by omega)
  rw [e1, e2, e3, e4, e5, e6, e7, e8, e9, e10, e11, e12, ht]
  unfold T
  split <;> omega
theorem T_le (y : Int) (h0 : 2000 ≤ y) (h1 : y ≤ 2100) : 0 ≤ T y ∧ T y ≤ 40000 := by unfold T; omega
theorem l1_year (k : Nat) (x5 y mo d h mi : Int) (h0 : 2000 ≤ x5) (h1 : x5 < 2100) :
    spec_TimeOf.l1 (k + 13) (T x5) x5 1 y mo d h mi = spec_TimeOf.l0 k (T (x5 + 1)) (x5 + 1) y mo d h mi := by
  have hT := T_le x5 h0 (by omega)
  have b1 := sd_le x5 1
  have b2 := sd_le x5 2
  have b3 := sd_le x5 3
  have b4 := sd_le x5 4
  have b5 := sd_le x5 5
  have b6 := sd_le x5 6
  have b7 := sd_le x5 7
  have b8 := sd_le x5 8
  have b9 := sd_le x5 9
  have b10 := sd_le x5 10
  have b11 := sd_le x5 11
  rw [l1_step (k + 12) (T x5) x5 1 y mo d h mi (by omega) (by omega) (by omega) (by omega),
    l1_step (k + 11) _ x5 (1 + 1) y mo d h mi (by omega) (by omega) (by omega) (by omega),
    l1_step (k + 10) _ x5 (1 + 1 + 1) y mo d h mi (by omega) (by omega) (by simp only [Int.reduceAdd]; omega) (by simp only [Int.reduceAdd]; omega),
    show ((1 : Int) + 1 + 1 + 1) = 4 from rfl, show ((1 : Int) + 1 + 1) = 3 from rfl, show ((1 : Int) + 1) = 2 from rfl,
    l1_step (k + 9) _ x5 4 y mo d h mi (by omega) (by omega) (by omega) (by omega), show ((4 : Int) + 1) = 5 from rfl,
    l1_step (k + 8) _ x5 5 y mo d h mi (by omega) (by omega) (by omega) (by omega), show ((5 : Int) + 1) = 6 from rfl,
    l1_step (k + 7) _ x5 6 y mo d h mi (by omega) (by omega) (by omega) (by omega), show ((6 : Int) + 1) = 7 from rfl,
    l1_step (k + 6) _ x5 7 y mo d h mi (by omega) (by omega) (by omega) (by omega), show ((7 : Int) + 1) = 8 from rfl,
    l1_step (k + 5) _ x5 8 y mo d h mi (by omega) (by omega) (by omega) (by omega), show ((8 : Int) + 1) = 9 from rfl,
    l1_step (k + 4) _ x5 9 y mo d h mi (by omega) (by omega) (by omega) (by omega), show ((9 : Int) + 1) = 10 from rfl,
    l1_step (k + 3) _ x5 10 y mo d h mi (by omega) (by omega) (by omega) (by omega), show ((10 : Int) + 1) = 11 from rfl,
    l1_step (k + 2) _ x5 11 y mo d h mi (by omega) (by omega) (by omega) (by omega), show ((11 : Int) + 1) = 12 from rfl,
    l1_step (k + 1) _ x5 12 y mo d h mi (by omega) (by omega) (by omega) (by omega), show ((12 : Int) + 1) = 13 from rfl,
    sum_year x5 h0 h1]
  simp only [spec_TimeOf.l1]
  rw [if_neg (by omega), wrap_id (by omega) (by omega)]
theorem l0_run (y mo d h mi : Int) (hy : y ≤ 2100) (K : Nat) : ∀ (n : Nat) (x5 : Int), x5 + n = y → 2000 ≤ x5 →
    spec_TimeOf.l0 (K + 1 + 14 * n) (T x5) x5 y mo d h mi = spec_TimeOf.l2 K (T y) 1 y mo d h mi := by
  intro n
  induction n with
  | zero =>
    intro x5 hn h0
    obtain rfl : x5 = y := by omega
    show spec_TimeOf.l0 (K + 1) (T x5) x5 x5 mo d h mi = _
    simp only [spec_TimeOf.l0]
    rw [if_neg (by omega)]
  | succ n ih =>
    intro x5 hn h0
    rw [show K + 1 + 14 * (n + 1) = (K + 1 + 14 * n + 13) + 1 by omega]
    simp only [spec_TimeOf.l0]
    rw [if_pos (by omega), l1_year _ x5 y mo d h mi h0 (by omega)]
    exact ih (x5 + 1) (by omega) (by omega)
theorem both (y mo d h mi : Int) (hy : y < 2100) (hd : 0 ≤ d) (hd' : d ≤ 31) (hh : 0 ≤ h) (hh' : h ≤ 23) (hm : 0 ≤ mi) (hm' : mi ≤ 59) : ∀ (n K : Nat) (x4 x8 : Int), n < K → x8 + n = mo → 0 ≤ x8 → x8 + n ≤ 12 → 0 ≤ x4 → x4 + 31 * n ≤ 100000 →
    ∃ D, -1 ≤ D ∧ D ≤ 101000 ∧ impl_daysTo.l0 K y mo d x4 x8 = some D ∧ spec_TimeOf.l2 K x4 x8 y mo d h mi = some ((D * 24 + h) * 60 + mi, true) := by
  intro n
  induction n with
  | zero =>
    intro K x4 x8 hk hn h0 h1 h2 h3
    obtain ⟨K, rfl⟩ : ∃ m, K = m + 1 := ⟨K - 1, by omega⟩
    refine ⟨x4 + d - 1, by omega, by omega, ?_, ?_⟩
    · simp only [impl_daysTo.l0]
      rw [if_neg (by omega), wrap_id (x := x4 + d) (by omega) (by omega), wrap_id (by omega) (by omega)]
    · simp only [spec_TimeOf.l2]
      rw [if_neg (by omega), wrap_id (x := x4 + d) (by omega) (by omega), wrap_id (x := x4 + d - 1) (by omega) (by omega), wrap_id (x := (x4 + d - 1) * 24) (by omega) (by omega), wrap_id (x := (x4 + d - 1) * 24 + h) (by omega) (by omega), wrap_id (x := ((x4 + d - 1) * 24 + h) * 60) (by omega) (by omega), wrap_id (by omega) (by omega)]
  | succ n ih =>
    intro K x4 x8 hk hn h0 h1 h2 h3
    obtain ⟨K, rfl⟩ : ∃ m, K = m + 1 := ⟨K - 1, by omega⟩
    have hs := sd_le y x8
    obtain ⟨D, hD0, hD1, e1, e2⟩ := ih K (x4 + sd y x8) (x8 + 1) (by omega) (by omega) (by omega) (by omega) (by omega) (by omega)
    refine ⟨D, hD0, hD1, ?_, ?_⟩
    · simp only [impl_daysTo.l0]
      rw [if_pos (by omega), md_eq y x8 hy, Option.bind_some, wrap_id (by omega) (by omega), wrap_id (by omega) (by omega)]
      exact e1
    · simp only [spec_TimeOf.l2]
      rw [if_pos (by omega), sd_eq, Option.bind_some, wrap_id (by omega) (by omega), wrap_id (by omega) (by omega)]
      exact e2
theorem impl_daysTo_le (a b : Nat) (hab : a ≤ b) (y mo d x4 x8 : Int) : ∀ r, impl_daysTo.l0 a y mo d x4 x8 = some r → impl_daysTo.l0 b y mo d x4 x8 = some r := by
  intro r hr
  induction hab with
  | refl => exact hr
  | step _ ih => exact (impl_daysTo.mono_l _) y mo d x4 x8 r ih
theorem daysTo_start (y : Int) (h0 : 2000 ≤ y) (h1 : y < 2100) : wrap64 ((wrap64 ((wrap64 (y - 2000)) * 365)) + (wrap64 (Int.tdiv (wrap64 ((wrap64 (y - 2000)) + 3)) 4))) = T y := by
  rw [wrap_id (x := y - 2000) (by omega) (by omega), wrap_id (x := (y - 2000) * 365) (by omega) (by omega), wrap_id (x := y - 2000 + 3) (by omega) (by omega), Int.tdiv_eq_ediv_of_nonneg (by omega), wrap_id (x := (y - 2000 + 3) / 4) (by omega) (by omega), wrap_id (by omega) (by omega)]
  rfl
theorem spec_run (N : Nat) (hN : 2000 ≤ N) (y mo d h mi : Int) (h0 : 2000 ≤ y) (h1 : y ≤ 2100) : ∃ K : Nat, 500 ≤ K ∧ K ≤ N ∧ spec_TimeOf.l0 N 0 2000 y mo d h mi = spec_TimeOf.l2 K (T y) 1 y mo d h mi := by
  refine ⟨N - 1 - 14 * (y - 2000).toNat, by omega, by omega, ?_⟩
  have := l0_run y mo d h mi h1 (N - 1 - 14 * (y - 2000).toNat) (y - 2000).toNat 2000 (by omega) (by omega)
  rw [show N - 1 - 14 * (y - 2000).toNat + 1 + 14 * (y - 2000).toNat = N by omega, show T 2000 = 0 from rfl] at this
  exact this
theorem same (N : Nat) (hN : 2000 ≤ N) (y mo d h mi : Int) : ∃ r, spec_TimeOf.f N y mo d h mi = some r ∧ impl_TimeOf.f N y mo d h mi = some r := by
  unfold spec_TimeOf.f impl_TimeOf.f spec_l2Right.f
  rw [in_eq]
  cases hc : (y == 2100 && (mo == 1 && (d == 1 && (h == 0 && mi == 0)))) with
  | true =>
    simp only [Bool.and_eq_true, beq_iff_eq] at hc
    obtain ⟨rfl, rfl, rfl, rfl, rfl⟩ := hc
    refine ⟨(52596000, true), ?_, rfl⟩
    obtain ⟨K, hK, hK', e⟩ := spec_run N hN 2100 1 1 0 0 (by omega) (by omega)
    simp only [if_true, Option.bind_some]
    rw [e]
    obtain ⟨K, rfl⟩ : ∃ m, K = m + 1 := ⟨K - 1, by omega⟩
    simp only [spec_TimeOf.l2]
    rw [if_neg (by omega), show T 2100 = 36525 from rfl]
    simp only [Int.reduceAdd, Int.reduceSub, Int.reduceMul, wrap_id (x := 36526) (by omega) (by omega), wrap_id (x := 36525) (by omega) (by omega), wrap_id (x := 876600) (by omega) (by omega), wrap_id (x := 52596000) (by omega) (by omega)]
  | false =>
    simp only [Bool.false_eq_true, if_false, specIn, Option.bind_some]
    cases h1 : (decide (2000 ≤ y) && decide (y ≤ 2099)) with
    | false => exact ⟨_, rfl, rfl⟩
    | true =>
      rw [Bool.and_eq_true] at h1
      have y0 := of_decide_eq_true h1.1
      have y1 := of_decide_eq_true h1.2
      simp only [if_true, sd_eq, md_eq y mo (by omega), Option.bind_some, specIn]
      cases h2 : (decide (1 ≤ mo) && decide (mo ≤ 12)) with
      | false => exact ⟨_, rfl, rfl⟩
      | true =>
        rw [Bool.and_eq_true] at h2
        have m0 := of_decide_eq_true h2.1
        have m1 := of_decide_eq_true h2.2
        simp only [if_true]
        cases h3 : (decide (1 ≤ d) && decide (d ≤ sd y mo)) with
        | false => exact ⟨_, rfl, rfl⟩
        | true =>
          rw [Bool.and_eq_true] at h3
          have d0 := of_decide_eq_true h3.1
          have d1 := of_decide_eq_true h3.2
          have hs := sd_le y mo
          simp only [if_true]
          cases h4 : (decide (0 ≤ h) && decide (h ≤ 23)) with
          | false => exact ⟨_, rfl, rfl⟩
          | true =>
            rw [Bool.and_eq_true] at h4
            have hh0 := of_decide_eq_true h4.1
            have hh1 := of_decide_eq_true h4.2
            simp only [if_true]
            cases h5 : (decide (0 ≤ mi) && decide (mi ≤ 59)) with
            | false => exact ⟨_, rfl, rfl⟩
            | true =>
              rw [Bool.and_eq_true] at h5
              have mi0 := of_decide_eq_true h5.1
              have mi1 := of_decide_eq_true h5.2
              simp only [if_true]
              have hT := T_le y y0 (by omega)
              obtain ⟨K, hK, hK', e⟩ := spec_run N hN y mo d h mi y0 (by omega)
              obtain ⟨D, hD0, hD1, e1, _⟩ := both y mo d h mi (by omega) (by omega) (by omega) hh0 hh1 mi0 mi1 (mo - 1).toNat N (T y) 1 (by omega) (by omega) (by omega) (by omega) (by omega) (by omega)
              obtain ⟨D', hD0', hD1', e1', e2'⟩ := both y mo d h mi (by omega) (by omega) (by omega) hh0 hh1 mi0 mi1 (mo - 1).toNat K (T y) 1 (by omega) (by omega) (by omega) (by omega) (by omega) (by omega)
              have hDD : D = D' := by
                have := (impl_daysTo_le K N (by omega) y mo d (T y) 1) _ e1'
                rw [e1] at this
                exact Option.some.inj this
              subst hDD
              refine ⟨_, e.trans e2', ?_⟩
              unfold impl_daysTo.f
              rw [daysTo_start y y0 (by omega), e1, Option.bind_some, wrap_id (x := D * 1440) (by omega) (by omega), wrap_id (x := h * 60) (by omega) (by omega), wrap_id (x := D * 1440 + h * 60) (by omega) (by omega), wrap_id (by omega) (by omega)]
              congr 2
              omega
theorem FnExactTimeOf (y mo d h mi : Int) : ∃ k, laws_FnExactTimeOf.f k y mo d h mi = some true := by
  refine ⟨2000, ?_⟩
  obtain ⟨r, h1, h2⟩ := same 2000 (by omega) y mo d h mi
  unfold laws_FnExactTimeOf.f laws_toDate.f
  simp only [Option.bind_some, h1, h2, if_true]
  cases r.2 <;> rfl

end Go.Proofs.Ytfpddfhndifnoaa.Pure
