/-
  The pure law of FnExactDayOfYear: both sides tell the same.
  Conditions: none.
-/
import Derived.Test.YtoghojneidpkkaaQFnExactDayOfYearx2
namespace Go.Proofs.Ytoghojneidpkkaa.Pure
open Go.RowKit Go.Proofs.Ytoghojneidpkkaa.PFnExactDayOfYear Go.Proofs.YtoghojneidpkkaaW.PrintWords Go.Proofs.YtoghojneidpkkaaW.PrintLast

def sd (y m : Int) : Int := if m = 2 then (if Int.tmod y 4 = 0 then (if y = 2100 then 28 else 29) else 28) else (if m = 4 then 30 else if m = 6 then 30 else if m = 9 then 30 else if m = 11 then 30 else 31)
theorem sd_eq (y m : Int) : spec_l2Days.f y m = some (sd y m) := by
  unfold spec_l2Days.f sd
  repeat' split
  all_goals rfl
def lp (y : Int) : Int := if y % 4 = 0 then 1 else 0
def md (y m : Int) : Int := if m = 2 then 28 + lp y else (if m = 4 then 30 else if m = 6 then 30 else if m = 9 then 30 else if m = 11 then 30 else 31)
theorem lp_01 (y : Int) : 0 ≤ lp y ∧ lp y ≤ 1 := by unfold lp; split <;> omega
theorem md_le (y m : Int) : 28 ≤ md y m ∧ md y m ≤ 31 := by
  have := lp_01 y
  unfold md
  repeat' split
  all_goals omega
theorem tmod4 (y : Int) (h : 0 ≤ y) : Int.tmod y 4 = y % 4 := Int.tmod_eq_emod_of_nonneg h
theorem md_eq (y m : Int) (h : 0 ≤ y) : impl_monthDays.f y m = some (md y m) := by
  unfold impl_monthDays.f impl_leap.f md lp
  rw [tmod4 y h]
  by_cases h4 : y % 4 = 0
  · rw [if_pos h4, h4]
    simp only [Option.bind_some]
    rw [show ((0 : Int) == 0) = true from rfl, if_pos rfl]
    repeat' split
    all_goals rfl
  · rw [if_neg h4]
    simp only [Option.bind_some, beq_iff_eq, h4, if_false]
    repeat' split
    all_goals rfl
theorem sd_md (y m : Int) (h : 0 ≤ y) (h1 : y ≠ 2100 ∨ m ≠ 2) : sd y m = md y m := by
  unfold sd md lp
  rw [tmod4 y h]
  by_cases h2 : m = 2
  · rw [if_pos h2, if_pos h2]
    by_cases h4 : y % 4 = 0
    · rw [if_pos h4, if_pos h4, if_neg (by omega)]; rfl
    · rw [if_neg h4, if_neg h4]; rfl
  · rw [if_neg h2, if_neg h2]
def cz (m : Int) : Int := if m = 1 then 0 else if m = 2 then 31 else if m = 3 then 59 else if m = 4 then 90 else if m = 5 then 120 else if m = 6 then 151 else if m = 7 then 181 else if m = 8 then 212 else if m = 9 then 243 else if m = 10 then 273 else if m = 11 then 304 else if m = 12 then 334 else 365
def C (y m : Int) : Int := cz m + (if 3 ≤ m then lp y else 0)
theorem C_one (y : Int) : C y 1 = 0 := rfl
theorem C_succ (y m : Int) (h0 : 1 ≤ m) (h1 : m ≤ 12) : C y (m + 1) = C y m + md y m := by
  rcases (by omega : m = 1 ∨ m = 2 ∨ m = 3 ∨ m = 4 ∨ m = 5 ∨ m = 6 ∨ m = 7 ∨ m = 8 ∨ m = 9 ∨ m = 10 ∨ m = 11 ∨ m = 12) with h | h | h | h | h | h | h | h | h | h | h | h <;> subst h <;> simp [C, cz, md] <;> omega
theorem C_mono (y m : Int) (h0 : 1 ≤ m) : ∀ j : Nat, m + j ≤ 13 → C y m ≤ C y (m + j)
  | 0, _ => by simp
  | j + 1, h => by
    have ih := C_mono y m h0 j (by omega)
    have hs := C_succ y (m + j) (by omega) (by omega)
    have hm := md_le y (m + j)
    rw [show m + ((j + 1 : Nat) : Int) = m + j + 1 from by omega]
    omega
theorem C_le (y m n : Int) (h0 : 1 ≤ m) (h1 : m ≤ n) (h2 : n ≤ 13) : C y m ≤ C y n := by
  have := C_mono y m h0 (n - m).toNat (by omega)
  rwa [show m + (((n - m).toNat : Nat) : Int) = n from by omega] at this
theorem C_last (y : Int) : C y 13 = 365 + lp y := rfl
theorem C_bd (y m : Int) (h0 : 1 ≤ m) (h1 : m ≤ 13) : 0 ≤ C y m ∧ C y m ≤ 366 := by
  have a := C_le y 1 m (by omega) h0 h1
  have b := C_le y m 13 h0 h1 (by omega)
  rw [C_one] at a
  rw [C_last] at b
  have := lp_01 y
  omega
def T (y : Int) : Int := (y - 2000) * 365 + (y - 2000 + 3) / 4
theorem T_succ (y : Int) : T (y + 1) = T y + C y 13 := by
  rw [C_last]; unfold T lp; split <;> omega
theorem T_le (y : Int) (h0 : 2000 ≤ y) (h1 : y ≤ 2101) : 0 ≤ T y ∧ T y ≤ 40000 := by unfold T; omega
theorem T_mono (y z : Int) (h : y + 1 ≤ z) : T (y + 1) ≤ T z := by unfold T; omega
theorem wrap_id {x : Int} (h0 : -1000000000 ≤ x) (h1 : x ≤ 1000000000) : wrap64 x = x := by unfold wrap64; omega
/-- The day's number 'n' is the day D of the month M of the year Y. -/
def Is (n Y M D : Int) : Prop := T Y + C Y M + D = n ∧ 0 ≤ D ∧ D < md Y M ∧ 1 ≤ M ∧ M ≤ 12 ∧ 2000 ≤ Y ∧ Y ≤ 2100
theorem Is.year {n Y M D : Int} (h : Is n Y M D) : T Y ≤ n ∧ n < T (Y + 1) := by
  obtain ⟨e, d0, d1, m0, m1, _, _⟩ := h
  have hs := C_succ Y M m0 m1
  have hl := C_le Y (M + 1) 13 (by omega) (by omega) (by omega)
  have h0 := (C_bd Y M m0 (by omega)).1
  rw [T_succ]
  omega
theorem Is.one {n Y M D Y' M' D' : Int} (h : Is n Y M D) (h' : Is n Y' M' D') : Y = Y' ∧ M = M' ∧ D = D' := by
  have a := h.year
  have b := h'.year
  have hy : Y = Y' := by
    rcases Int.lt_trichotomy Y Y' with c | c | c
    · have := T_mono Y Y' (by omega); omega
    · exact c
    · have := T_mono Y' Y (by omega); omega
  subst hy
  obtain ⟨e, d0, d1, m0, m1, _, _⟩ := h
  obtain ⟨e', d0', d1', m0', m1', _, _⟩ := h'
  have hs := C_succ Y M m0 m1
  have hs' := C_succ Y M' m0' m1'
  have hm : M = M' := by
    rcases Int.lt_trichotomy M M' with c | c | c
    · have := C_le Y (M + 1) M' (by omega) (by omega) (by omega); omega
    · exact c
    · have := C_le Y (M' + 1) M (by omega) (by omega) (by omega); omega
  subst hm
  exact ⟨rfl, rfl, by omega⟩
theorem spec_loop (n h mi : Int) (hn : n ≤ 36525) : ∀ (d k : Nat) (days y m : Int), days.toNat ≤ d → d < k → 0 ≤ days → T y + C y m + days = n → 1 ≤ m → m ≤ 12 → 2000 ≤ y → y ≤ 2100 →
    ∃ Y M D, spec_DateOf.l0 k days y m 1 h mi = some (Y, M, D + 1, h, mi, true) ∧ Is n Y M D
  | d, k, days, y, m, hd, hk, h0, he, m0, m1, y0, y1 => by
    obtain ⟨k, rfl⟩ : ∃ j, k = j + 1 := ⟨k - 1, by omega⟩
    have hT := T_le y y0 (by omega)
    have hC := C_bd y m m0 (by omega)
    have hY : y = 2100 → m = 1 ∧ days = 0 := by
      rintro rfl
      have h21 : T 2100 = 36525 := rfl
      rcases (by omega : m = 1 ∨ 2 ≤ m) with c | c
      · subst c; rw [C_one] at he; omega
      · have := C_le 2100 2 m (by omega) c (by omega)
        have h2 : C 2100 2 = 31 := rfl
        omega
    have hsd : sd y m = md y m := sd_md y m (by omega) (by
      rcases (by omega : y = 2100 ∨ y ≠ 2100) with c | c
      · exact .inr (by have := (hY c).1; omega)
      · exact .inl c)
    have hmd := md_le y m
    simp only [spec_DateOf.l0]
    rw [sd_eq, hsd]
    simp only [Option.bind_some]
    by_cases c : days ≥ md y m
    · rw [if_pos c, wrap_id (by omega) (by omega), wrap_id (x := days - md y m) (by omega) (by omega)]
      have hs := C_succ y m m0 m1
      have hy2 : y < 2100 := by
        rcases (by omega : y = 2100 ∨ y < 2100) with c' | c'
        · have := hY c'; omega
        · exact c'
      obtain ⟨d, rfl⟩ : ∃ j, d = j + 1 := ⟨d - 1, by omega⟩
      by_cases c2 : m + 1 = 13
      · rw [if_pos c2, wrap_id (by omega) (by omega)]
        exact spec_loop n h mi hn d k _ _ _ (by omega) (by omega) (by omega) (by
          rw [T_succ, C_one]
          have : C y 13 = C y (m + 1) := by rw [c2]
          omega) (by omega) (by omega) (by omega) (by omega)
      · rw [if_neg c2]
        exact spec_loop n h mi hn d k _ _ _ (by omega) (by omega) (by omega) (by omega) (by omega) (by omega) (by omega) (by omega)
    · rw [if_neg c, wrap_id (by omega) (by omega)]
      exact ⟨y, m, days, rfl, he, h0, by omega, m0, m1, y0, y1⟩
theorem days_loop (y m : Int) (hy : 2000 ≤ y) (hy1 : y ≤ 2101) (hm : m ≤ 12) : ∀ (d k : Nat) (x : Int), (m - x).toNat ≤ d → d < k → 1 ≤ x → x ≤ m →
    impl_daysTo.l0 k y m 1 (T y + C y x) x = some (T y + C y m)
  | d, k, x, hd, hk, h0, h1 => by
    obtain ⟨k, rfl⟩ : ∃ j, k = j + 1 := ⟨k - 1, by omega⟩
    have hT := T_le y hy (by omega)
    have hC := C_bd y x h0 (by omega)
    have hmd := md_le y x
    simp only [impl_daysTo.l0]
    by_cases c : x < m
    · rw [if_pos c, md_eq y x (by omega)]
      simp only [Option.bind_some]
      obtain ⟨d, rfl⟩ : ∃ j, d = j + 1 := ⟨d - 1, by omega⟩
      rw [wrap_id (by omega) (by omega), wrap_id (by omega) (by omega), show T y + C y x + md y x = T y + C y (x + 1) from by rw [C_succ y x h0 (by omega)]; omega]
      exact days_loop y m hy hy1 hm d k (x + 1) (by omega) (by omega) (by omega) (by omega)
    · obtain rfl : x = m := by omega
      rw [if_neg c, wrap_id (x := T y + C y x + 1) (by omega) (by omega), wrap_id (by omega) (by omega)]
      congr 1; omega
theorem days_to (k : Nat) (y m : Int) (hy : 2000 ≤ y) (hy1 : y ≤ 2101) (h0 : 1 ≤ m) (hm : m ≤ 12) (hk : 13 < k) : impl_daysTo.f k y m 1 = some (T y + C y m) := by
  unfold impl_daysTo.f
  rw [wrap_id (x := y - 2000) (by omega) (by omega), wrap_id (x := (y - 2000) * 365) (by omega) (by omega), wrap_id (x := y - 2000 + 3) (by omega) (by omega), Int.tdiv_eq_ediv_of_nonneg (by omega), wrap_id (x := (y - 2000 + 3) / 4) (by omega) (by omega), wrap_id (by omega) (by omega)]
  have := days_loop y m hy hy1 hm 12 k 1 (by omega) (by omega) (by omega) h0
  rw [C_one, Int.add_zero] at this
  exact this
theorem impl_month (a0 n y : Int) (hy : 2000 ≤ y) (hy1 : y ≤ 2100) (hl : T y ≤ n) (hu : n < T (y + 1)) : ∀ (d k : Nat) (m : Int), (12 - m).toNat ≤ d → d + 20 < k → 1 ≤ m → m ≤ 12 → T y + C y m ≤ n →
    ∃ M D, impl_DateOf.l1 k a0 n y m = some (y, M, D + 1, Int.tmod (wrap64 (Int.tdiv a0 60)) 24, Int.tmod a0 60, true) ∧ Is n y M D
  | d, k, m, hd, hk, h0, h1, he => by
    obtain ⟨k, rfl⟩ : ∃ j, k = j + 1 := ⟨k - 1, by omega⟩
    have hT := T_le y hy (by omega)
    have hT1 := T_le (y + 1) (by omega) (by omega)
    have hC := C_bd y m h0 (by omega)
    have hs := C_succ y m h0 h1
    simp only [impl_DateOf.l1]
    have fin : T y + C y (m + 1) > n → (∃ M D, ((impl_daysTo.f k y m 1).bind fun t => (some (y, m, wrap64 ((wrap64 (n - t)) + 1), Int.tmod (wrap64 (Int.tdiv a0 60)) 24, Int.tmod a0 60, true))) = some (y, M, D + 1, Int.tmod (wrap64 (Int.tdiv a0 60)) 24, Int.tmod a0 60, true) ∧ Is n y M D) := by
      intro hgt
      rw [days_to k y m hy (by omega) h0 h1 (by omega)]
      simp only [Option.bind_some]
      rw [wrap_id (x := n - (T y + C y m)) (by omega) (by omega), wrap_id (by omega) (by omega)]
      exact ⟨m, n - (T y + C y m), rfl, by omega, by omega, by omega, h0, h1, hy, hy1⟩
    by_cases c : m < 12
    · rw [if_pos c, wrap_id (by omega) (by omega), days_to k y (m + 1) hy (by omega) (by omega) (by omega) (by omega)]
      simp only [Option.bind_some]
      by_cases c2 : T y + C y (m + 1) ≤ n
      · rw [if_pos c2]
        obtain ⟨d, rfl⟩ : ∃ j, d = j + 1 := ⟨d - 1, by omega⟩
        exact impl_month a0 n y hy hy1 hl hu d k (m + 1) (by omega) (by omega) (by omega) (by omega) c2
      · rw [if_neg c2]
        exact fin (by omega)
    · rw [if_neg c]
      obtain rfl : m = 12 := by omega
      refine fin ?_
      have := T_succ y
      rw [show (12 : Int) + 1 = 13 from rfl]
      omega
theorem impl_year (a0 n : Int) (h0 : 0 ≤ n) (hn : n ≤ 36525) : ∀ (d k : Nat) (y : Int), (2101 - y).toNat ≤ d → d + 40 < k → 2000 ≤ y → y ≤ 2100 → T y ≤ n →
    ∃ Y M D, impl_DateOf.l0 k a0 n y = some (Y, M, D + 1, Int.tmod (wrap64 (Int.tdiv a0 60)) 24, Int.tmod a0 60, true) ∧ Is n Y M D
  | d, k, y, hd, hk, y0, y1, he => by
    obtain ⟨k, rfl⟩ : ∃ j, k = j + 1 := ⟨k - 1, by omega⟩
    simp only [impl_DateOf.l0]
    rw [wrap_id (by omega) (by omega), days_to k (y + 1) 1 (by omega) (by omega) (by omega) (by omega) (by omega), C_one, Int.add_zero]
    simp only [Option.bind_some]
    by_cases c : T (y + 1) ≤ n
    · rw [if_pos c]
      obtain ⟨d, rfl⟩ : ∃ j, d = j + 1 := ⟨d - 1, by omega⟩
      have hy : y ≠ 2100 := by
        rintro rfl
        have : T (2100 + 1) = 36891 := rfl
        omega
      exact impl_year a0 n h0 hn d k (y + 1) (by omega) (by omega) (by omega) (by omega) c
    · rw [if_neg c]
      obtain ⟨M, D, h1, h2⟩ := impl_month a0 n y y0 y1 he (by omega) 11 k 1 (by omega) (by omega) (by omega) (by omega) (by rw [C_one]; omega)
      exact ⟨y, M, D, h1, h2⟩
theorem day_in (a0 : Int) (h0 : 0 ≤ a0) (h1 : a0 ≤ 52596000) : wrap64 (Int.tdiv a0 1440) = a0 / 1440 ∧ 0 ≤ a0 / 1440 ∧ a0 / 1440 ≤ 36525 := by
  rw [Int.tdiv_eq_ediv_of_nonneg h0, wrap_id (by omega) (by omega)]
  omega
theorem time_spec (a0 : Int) : spec_l2Time.f a0 = some (decide (0 ≤ a0) && decide (a0 ≤ 52596000)) := by
  unfold spec_l2Time.f
  by_cases h : a0 ≥ 0
  · rw [if_pos h, decide_eq_true (show 0 ≤ a0 from h), Bool.true_and]
  · rw [if_neg h, decide_eq_false (show ¬ 0 ≤ a0 from h), Bool.false_and]
theorem time_impl (a0 : Int) : impl_isTime.f a0 = some (decide (0 ≤ a0) && decide (a0 ≤ 52596000)) := by
  unfold impl_isTime.f impl_in.f
  by_cases h : a0 ≥ 0
  · rw [if_pos h, decide_eq_true (show 0 ≤ a0 from h), Bool.true_and]; rfl
  · rw [if_neg h, decide_eq_false (show ¬ 0 ≤ a0 from h), Bool.false_and]; rfl
/-- Both sides tell the day alike. -/
theorem both (a0 : Int) (h0 : 0 ≤ a0) (h1 : a0 ≤ 52596000) (k : Nat) (hk : 40000 ≤ k) : ∃ Y M D, Is (a0 / 1440) Y M D ∧
    spec_DateOf.f k a0 = some (Y, M, D + 1, Int.tmod (wrap64 (Int.tdiv a0 60)) 24, Int.tmod a0 60, true) ∧
    impl_DateOf.f k a0 = some (Y, M, D + 1, Int.tmod (wrap64 (Int.tdiv a0 60)) 24, Int.tmod a0 60, true) := by
  obtain ⟨e, n0, n1⟩ := day_in a0 h0 h1
  have ht : (decide (0 ≤ a0) && decide (a0 ≤ 52596000)) = true := by simp [h0, h1]
  obtain ⟨Y, M, D, hs, hI⟩ := spec_loop (a0 / 1440) (Int.tmod (wrap64 (Int.tdiv a0 60)) 24) (Int.tmod a0 60) n1 (a0 / 1440).toNat k (a0 / 1440) 2000 1 (by omega) (by omega) n0 (by rw [C_one]; have : T 2000 = 0 := rfl; omega) (by omega) (by omega) (by omega) (by omega)
  obtain ⟨Y', M', D', hs', hI'⟩ := impl_year a0 (a0 / 1440) n0 n1 101 k (2000 + a0 / 1440 / 366) (by omega) (by omega) (by omega) (by omega) (by unfold T; omega)
  obtain ⟨rfl, rfl, rfl⟩ := hI.one hI'
  refine ⟨Y, M, D, hI, ?_, ?_⟩
  · unfold spec_DateOf.f
    rw [time_spec, ht]
    simp only [Option.bind_some]
    rw [if_pos trivial, e]
    exact hs
  · unfold impl_DateOf.f
    rw [time_impl, ht]
    simp only [Option.bind_some]
    rw [if_pos trivial, e, Int.tdiv_eq_ediv_of_nonneg n0, wrap_id (x := a0 / 1440 / 366) (by omega) (by omega), wrap_id (by omega) (by omega)]
    exact hs'
theorem none_spec (a0 : Int) (k : Nat) (h : ¬ (0 ≤ a0 ∧ a0 ≤ 52596000)) : spec_DateOf.f k a0 = some (0, 0, 0, 0, 0, false) := by
  have ht : (decide (0 ≤ a0) && decide (a0 ≤ 52596000)) = false := by
    rw [← Bool.decide_and]; exact decide_eq_false h
  unfold spec_DateOf.f
  rw [time_spec, ht]
  rfl
theorem none_impl (a0 : Int) (k : Nat) (h : ¬ (0 ≤ a0 ∧ a0 ≤ 52596000)) : impl_DateOf.f k a0 = some (0, 0, 0, 0, 0, false) := by
  have ht : (decide (0 ≤ a0) && decide (a0 ≤ 52596000)) = false := by
    rw [← Bool.decide_and]; exact decide_eq_false h
  unfold impl_DateOf.f
  rw [time_impl, ht]
  rfl

theorem sum_loop (y m : Int) (hy : 2000 ≤ y) (hy1 : y ≤ 2100) (hm : m ≤ 12) (h21 : y = 2100 → m ≤ 2) (a b c : Int) : ∀ (d k : Nat) (n x : Int), (m - x).toNat ≤ d → d < k → 1 ≤ x → x ≤ m → 0 ≤ n → n + C y m - C y x ≤ 1000 →
    spec_DayOfYear.l0 k n x y m a b c = some (n + C y m - C y x)
  | d, k, n, x, hd, hk, h0, h1, hn, hb => by
    obtain ⟨k, rfl⟩ : ∃ j, k = j + 1 := ⟨k - 1, by omega⟩
    simp only [spec_DayOfYear.l0]
    by_cases c : x < m
    · have hmd := md_le y x
      have hs := C_succ y x h0 (by omega)
      have hl := C_le y (x + 1) m (by omega) (by omega) (by omega)
      rw [if_pos c, sd_eq, sd_md y x (by omega) (by omega)]
      simp only [Option.bind_some]
      obtain ⟨d, rfl⟩ : ∃ j, d = j + 1 := ⟨d - 1, by omega⟩
      rw [wrap_id (by omega) (by omega), wrap_id (by omega) (by omega), sum_loop y m hy hy1 hm h21 _ _ _ d k (n + md y x) (x + 1) (by omega) (by omega) (by omega) (by omega) (by omega) (by omega)]
      congr 1; omega
    · obtain rfl : x = m := by omega
      rw [if_neg c]
      congr 1; omega
theorem FnExactDayOfYear : laws_FnExactDayOfYear.Pure := by
  intro a0 _
  refine ⟨40000, ?_⟩
  unfold laws_FnExactDayOfYear.f spec_DayOfYear.f impl_DayOfYear.f
  by_cases h : 0 ≤ a0 ∧ a0 ≤ 52596000
  · obtain ⟨Y, M, D, hI, hs, hi⟩ := both a0 h.1 h.2 40000 (Nat.le_refl _)
    obtain ⟨e, n0, n1⟩ := day_in a0 h.1 h.2
    rw [hs, hi]
    obtain ⟨e', d0, d1, m0, m1, y0, y1⟩ := id hI
    have hT := T_le Y y0 (by omega)
    have hC := C_bd Y M m0 (by omega)
    have hmd := md_le Y M
    have h21 : Y = 2100 → M ≤ 2 := by
      rintro rfl
      have h21 : T 2100 = 36525 := rfl
      rcases (by omega : M ≤ 2 ∨ 3 ≤ M) with c | c
      · exact c
      · have := C_le 2100 3 M (by omega) c (by omega)
        have h2 : C 2100 3 = 60 := rfl
        omega
    have hl := sum_loop Y M y0 y1 m1 h21 (D + 1) (Int.tmod (wrap64 (Int.tdiv a0 60)) 24) (Int.tmod a0 60) 12 40000 (D + 1) 1 (by omega) (by omega) (by omega) m0 (by omega) (by rw [C_one]; omega)
    have hd := days_to 40000 Y 1 y0 (by omega) (by omega) (by omega) (by omega)
    simp only [Option.bind_some]
    rw [if_pos trivial, if_pos trivial, hl, hd, C_one]
    simp only [Option.bind_some]
    rw [e, wrap_id (x := a0 / 1440 - (T Y + 0)) (by omega) (by omega), wrap_id (x := a0 / 1440 - (T Y + 0) + 1) (by omega) (by omega), if_pos (by omega)]
  · rw [none_spec a0 40000 h, none_impl a0 40000 h]
    simp

end Go.Proofs.Ytoghojneidpkkaa.Pure
