/-
  Plain facts on float64: when a number is known, when two are the same to the bit, the sign of a number.
  Conditions: none; nothing of the program stands here.
-/
import Derived.Test.YtbgacfjocjcffaaFk
namespace Go.Proofs.Ytbgacfjocjcffaa.Fk
open Go

theorem cmp_gt (a b : Int) : compare a b = .gt ↔ b < a := by
  simp only [compare, compareOfLessAndEq]
  split
  · constructor
    · intro h; cases h
    · intro h; omega
  · split
    · constructor
      · intro h; cases h
      · intro h; omega
    · constructor
      · intro _; omega
      · intro _; rfl
theorem cmp_lt (a b : Int) : compare a b = .lt ↔ a < b := by
  simp only [compare, compareOfLessAndEq]
  split
  · exact ⟨fun _ => by assumption, fun _ => rfl⟩
  · split
    · constructor
      · intro h; cases h
      · intro h; omega
    · constructor
      · intro h; cases h
      · intro h; omega
theorem cmp_eq (a b : Int) : compare a b = .eq ↔ a = b := by
  simp only [compare, compareOfLessAndEq]
  split
  · constructor
    · intro h; cases h
    · intro h; omega
  · split
    · exact ⟨fun _ => by assumption, fun _ => rfl⟩
    · constructor
      · intro h; cases h
      · intro h; omega

/-- What a number's word is made of. -/
theorem read_number {x : Nat} {s : Bool} {m : Nat} {i : Int} (h : Ieee.double.read x = .number s m i) :
    s = (x / 9223372036854775808 % 2 == 1) ∧ x % 9223372036854775808 = (i + 1074).toNat * 4503599627370496 + m ∧ -1074 ≤ i ∧ i ≤ 971 ∧ m < 9007199254740992 ∧ (-1074 < i → 4503599627370496 ≤ m) := by
  unfold Ieee.Format.read at h
  dsimp only at h
  rw [signWeight64, infRung64, binade64, least64] at h
  by_cases h1 : x % 9223372036854775808 < 4503599627370496
  · rw [if_pos h1] at h
    injection h with e1 e2 e3
    subst e1; subst e2; subst e3
    refine ⟨rfl, ?_, by omega, by omega, by omega, by omega⟩
    simp
  · rw [if_neg h1] at h
    by_cases h2 : x % 9223372036854775808 < 9218868437227405312
    · rw [if_pos h2] at h
      injection h with e1 e2 e3
      subst e1; subst e2; subst e3
      refine ⟨rfl, by omega, by omega, by omega, by omega, by omega⟩
    · rw [if_neg h2] at h
      split at h <;> cases h

theorem read_infinity {x : Nat} {s : Bool} (h : Ieee.double.read x = .infinity s) : s = (x / 9223372036854775808 % 2 == 1) ∧ x % 9223372036854775808 = 9218868437227405312 := by
  unfold Ieee.Format.read at h
  dsimp only at h
  rw [signWeight64, infRung64, binade64, least64] at h
  split at h
  · cases h
  · split at h
    · cases h
    · split at h
      · injection h with e1; exact ⟨e1.symm, by assumption⟩
      · cases h

theorem nan_read {x : Nat} (h : nan x = false) : (∃ s m i, Ieee.double.read x = .number s m i) ∨ ∃ s, Ieee.double.read x = .infinity s := by
  unfold nan at h
  cases hx : Ieee.double.read x with
  | number s m i => exact .inl ⟨s, m, i, rfl⟩
  | infinity s => exact .inr ⟨s, rfl⟩
  | nan s t => rw [hx] at h; cases h

theorem order_self {x : Nat} (h : nan x = false) : Ieee.double.order x x = some .eq := by
  unfold Ieee.Format.order
  rcases nan_read h with ⟨s, m, i, hx⟩ | ⟨s, hx⟩
  · rw [hx]; simp only [Ieee.Datum.order]; rw [(cmp_eq _ _).2 rfl]
  · rw [hx]; simp only [Ieee.Datum.order]; cases s <;> rfl
theorem ford_self (c : Option Nat) (x : Nat) (hc : can x = c) : (ford c c != some .eq) = c.isNone := by
  cases c with
  | none => rfl
  | some y =>
    obtain ⟨rfl, hn⟩ := can_some hc
    show (Ieee.double.order x x != some .eq) = false
    rw [order_self hn]; rfl
theorem self_ne (x : Nat) : (FloatKind.f64.format.order x x != some .eq) = nan x := by
  rw [order_can, ford_self _ x rfl]
  cases h : nan x with
  | true => rw [can_nan h]; rfl
  | false => rw [can_real h]; rfl

/-! Known -/
def kn (x : Nat) : Bool := decide (x % 9223372036854775808 < 9218868437227405312)

theorem kn_number {x : Nat} (h : kn x = true) : ∃ s m i, Ieee.double.read x = .number s m i := by
  have h' := of_decide_eq_true h
  rcases nan_read (x := x) (by rw [nan_iff]; exact decide_eq_false (by omega)) with h1 | ⟨s, hs⟩
  · exact h1
  · have := (read_infinity hs).2; omega
theorem kn_not {x : Nat} (h : kn x = false) (hn : nan x = false) : ∃ s, Ieee.double.read x = .infinity s := by
  have h' := of_decide_eq_false h
  rcases nan_read hn with ⟨s, m, i, h1⟩ | h1
  · obtain ⟨_, h2, h3, h4, h5, _⟩ := read_number h1
    exfalso
    apply h'
    rw [h2]
    have : (i + 1074).toNat ≤ 2045 := by omega
    omega
  · exact h1
theorem kn_real {x : Nat} (h : kn x = true) : nan x = false := by
  have h' := of_decide_eq_true h
  rw [nan_iff]; exact decide_eq_false (by omega)

theorem sub_self_known {x : Nat} (h : kn x = true) : floatBits .sub .f64 x x = some 0 := by
  obtain ⟨s, m, i, hx⟩ := kn_number h
  show (((Ieee.double.read x).sum (Ieee.double.read x).opposite).map Ieee.double.write) = some 0
  rw [hx]
  have hm : min i i = i := by omega
  have h0 : Ieee.signed s m (i - i).toNat + Ieee.signed (!s) m (i - i).toNat = 0 := by
    rw [show (i - i).toNat = 0 from by omega]
    cases s <;> simp [Ieee.signed] <;> omega
  simp only [Ieee.Datum.opposite, Ieee.Datum.sum, hm, h0]
  cases s <;> rfl
theorem sub_self_not {x : Nat} (h : kn x = false) : floatBits .sub .f64 x x = none := by
  cases hn : nan x with
  | true => exact bits_nan_left .sub x hn
  | false =>
    obtain ⟨s, hx⟩ := kn_not h hn
    show (((Ieee.double.read x).sum (Ieee.double.read x).opposite).map Ieee.double.write) = none
    rw [hx]
    cases s <;> rfl

/-- The reference's test: the difference with itself is 0. -/
theorem known_spec {x r : Nat} (h : can r = fop .sub (can x) (can x)) : (FloatKind.f64.format.order r 0 == some .eq) = kn x := by
  rw [order_can, h, ← bits_can]
  cases hk : kn x with
  | true => rw [sub_self_known hk]; decide
  | false => rw [sub_self_not hk]; rfl

theorem max64 : Ieee.double.read 9218868437227405311 = .number false 9007199254740991 971 := by decide

/-- The program's test: its magnitude is not above the greatest number. -/
theorem abs_max {x : Nat} (h : nan x = false) : (FloatKind.f64.format.order (x % 9223372036854775808) 9218868437227405311 == some .gt) = !kn x := by
  rw [fmt64]
  unfold Ieee.Format.order
  rw [max64]
  have hm : x % 9223372036854775808 % 9223372036854775808 = x % 9223372036854775808 := by omega
  cases hk : kn x with
  | true =>
    have hk' : kn (x % 9223372036854775808) = true := by unfold kn at *; rw [hm]; exact hk
    obtain ⟨s, m, i, hx⟩ := kn_number hk'
    obtain ⟨hs, _, h1, h2, h3, _⟩ := read_number hx
    have hs' : s = false := by rw [hs, show x % 9223372036854775808 / 9223372036854775808 = 0 from by omega]; rfl
    subst hs'
    rw [hx]
    simp only [Ieee.Datum.order]
    have hb : min i 971 = i := by omega
    rw [hb]
    have : ¬ compare (Ieee.signed false m (i - i).toNat) (Ieee.signed false 9007199254740991 (971 - i).toNat) = .gt := by
      rw [cmp_gt]
      simp only [Ieee.signed, Bool.false_eq_true, if_false]
      rw [show (i - i).toNat = 0 from by omega, Nat.shiftLeft_zero, Nat.shiftLeft_eq]
      have : 1 ≤ 2 ^ (971 - i).toNat := Nat.one_le_two_pow
      have : m ≤ 9007199254740991 * 2 ^ (971 - i).toNat := Nat.le_trans (by omega) (Nat.le_mul_of_pos_right _ this)
      omega
    cases hc : compare (Ieee.signed false m (i - i).toNat) (Ieee.signed false 9007199254740991 (971 - i).toNat) with
    | gt => exact absurd hc this
    | lt => rfl
    | eq => rfl
  | false =>
    have hn' : nan (x % 9223372036854775808) = false := by rw [nan_iff] at *; rw [hm]; exact h
    have hk' : kn (x % 9223372036854775808) = false := by unfold kn at *; rw [hm]; exact hk
    obtain ⟨s, hx⟩ := kn_not hk' hn'
    have hs' : s = false := by rw [(read_infinity hx).1, show x % 9223372036854775808 / 9223372036854775808 = 0 from by omega]; rfl
    subst hs'
    rw [hx]
    rfl

/-! The sign -/
def sg (x : Nat) : Bool := x / 9223372036854775808 % 2 == 1
def minus (x r : Nat) : Bool := FloatKind.f64.format.order x 0 == some .lt || (FloatKind.f64.format.order x 0 == some .eq && FloatKind.f64.format.order r 0 == some .lt)

theorem zero64 : Ieee.double.read 0 = .number false 0 (-1074) := by decide
theorem one64 : Ieee.double.read 4607182418800017408 = .number false 4503599627370496 (-52) := by decide

theorem order_zero {x : Nat} {s : Bool} {m : Nat} {i : Int} (hx : Ieee.double.read x = .number s m i) :
    Ieee.double.order x 0 = some (if m = 0 then .eq else if s then .lt else .gt) := by
  obtain ⟨_, _, h1, _, _, _⟩ := read_number hx
  unfold Ieee.Format.order
  rw [hx, zero64]
  simp only [Ieee.Datum.order]
  rw [show min i (-1074) = -1074 from by omega, show (-1074 - -1074 : Int).toNat = 0 from rfl]
  have hz : Ieee.signed false 0 0 = 0 := rfl
  rw [hz]
  have hp : 0 < 2 ^ (i - -1074).toNat := Nat.two_pow_pos _
  by_cases h0 : m = 0
  · subst h0
    rw [if_pos rfl, (cmp_eq _ _).2]
    cases s <;> simp [Ieee.signed]
  · rw [if_neg h0]
    have hpos : 0 < m * 2 ^ (i - -1074).toNat := Nat.mul_pos (by omega) hp
    cases s
    · rw [(cmp_gt _ _).2]
      · rfl
      · simp only [Ieee.signed, Bool.false_eq_true, if_false, Nat.shiftLeft_eq]; omega
    · rw [(cmp_lt _ _).2]
      · rfl
      · simp only [Ieee.signed, if_true, Nat.shiftLeft_eq]; omega

theorem minus_sg {x r : Nat} (hn : nan x = false) (hr : can r = fop .quo (some 4607182418800017408) (can x)) : minus x r = sg x := by
  unfold minus
  rw [fmt64]
  rcases nan_read hn with ⟨s, m, i, hx⟩ | ⟨s, hx⟩
  · have hs := (read_number hx).1
    rw [order_zero hx]
    by_cases h0 : m = 0
    · subst h0
      rw [if_pos rfl]
      have hq : fop .quo (some 4607182418800017408) (can x) = some (Ieee.double.word s Ieee.double.infRung) := by
        rw [can_real hn]
        show (((Ieee.double.read 4607182418800017408).quotient 54 (Ieee.double.read x)).map Ieee.double.write) = _
        rw [one64, hx]
        cases s <;> rfl
      rw [hq] at hr
      obtain ⟨rfl, _⟩ := can_some hr
      unfold sg
      rw [← hs]
      cases s <;> decide
    · rw [if_neg h0]
      unfold sg
      rw [← hs]
      cases s <;> rfl
  · have hs := (read_infinity hx).1
    have ho : Ieee.double.order x 0 = some (if s then .lt else .gt) := by
      unfold Ieee.Format.order; rw [hx, zero64]; rfl
    rw [ho]
    unfold sg
    rw [← hs]
    cases s <;> rfl

theorem pow_apart {m n d : Nat} (h : m = n * 2 ^ d) (hm : m < 9007199254740992) (hn : 0 < d → 4503599627370496 ≤ n) : d = 0 := by
  rcases Nat.eq_zero_or_pos d with h0 | h0
  · exact h0
  · exfalso
    have h1 : 2 ^ 1 ≤ 2 ^ d := Nat.pow_le_pow_right (by omega) h0
    have h2 : n * 2 ^ 1 ≤ n * 2 ^ d := Nat.mul_le_mul_left _ h1
    have := hn h0
    omega

theorem signed_inj {s : Bool} {a b : Nat} {p q : Nat} (h : Ieee.signed s a p = Ieee.signed s b q) : a * 2 ^ p = b * 2 ^ q := by
  cases s <;> simp only [Ieee.signed, Bool.false_eq_true, if_false, if_true, Nat.shiftLeft_eq] at h <;> omega

theorem eq_of_order {a b : Nat} (ha : a < 18446744073709551616) (hb : b < 18446744073709551616) (na : nan a = false) (nb : nan b = false)
    (h : Ieee.double.order a b = some .eq) (hs : sg a = sg b) : a = b := by
  unfold Ieee.Format.order at h
  have key : a % 9223372036854775808 = b % 9223372036854775808 := by
    rcases nan_read na with ⟨s, m, i, hx⟩ | ⟨s, hx⟩ <;> rcases nan_read nb with ⟨t, n, j, hy⟩ | ⟨t, hy⟩
    · rw [hx, hy] at h
      simp only [Ieee.Datum.order] at h
      have he := (cmp_eq _ _).1 (Option.some.inj h)
      obtain ⟨e1, r1, l1, u1, m1, n1⟩ := read_number hx
      obtain ⟨e2, r2, l2, u2, m2, n2⟩ := read_number hy
      have hst : s = t := by rw [e1, e2]; exact hs
      subst hst
      have hv := signed_inj he
      rcases Int.le_total i j with hij | hij
      · rw [show min i j = i from by omega, show (i - i).toNat = 0 from by omega, Nat.pow_zero, Nat.mul_one] at hv
        have hd := pow_apart hv m1 (fun hp => n2 (by omega))
        rw [hd, Nat.pow_zero, Nat.mul_one] at hv
        rw [r1, r2, hv, show i = j from by omega]
      · rw [show min i j = j from by omega, show (j - j).toNat = 0 from by omega, Nat.pow_zero, Nat.mul_one] at hv
        have hd := pow_apart hv.symm m2 (fun hp => n1 (by omega))
        rw [hd, Nat.pow_zero, Nat.mul_one] at hv
        rw [r1, r2, hv, show i = j from by omega]
    · rw [hx, hy] at h
      simp only [Ieee.Datum.order] at h
      cases t <;> cases h
    · rw [hx, hy] at h
      simp only [Ieee.Datum.order] at h
      cases s <;> cases h
    · rw [(read_infinity hx).2, (read_infinity hy).2]
  unfold sg at hs
  have h1 : a / 9223372036854775808 < 2 := by omega
  have h2 : b / 9223372036854775808 < 2 := by omega
  have h3 : a / 9223372036854775808 = b / 9223372036854775808 := by
    rcases (by omega : a / 9223372036854775808 = 0 ∨ a / 9223372036854775808 = 1) with e | e <;> rcases (by omega : b / 9223372036854775808 = 0 ∨ b / 9223372036854775808 = 1) with e' | e' <;> rw [e, e'] at hs <;> first | (rw [e, e']; done) | (exfalso; revert hs; decide)
  omega

/-- 'Same' of the reference and of the program agree. -/
theorem same_eq {a b ra rb : Nat} (ha : a < 18446744073709551616) (hb : b < 18446744073709551616) (na : nan a = false) (nb : nan b = false)
    (hra : can ra = fop .quo (some 4607182418800017408) (can a)) (hrb : can rb = fop .quo (some 4607182418800017408) (can b)) :
    (FloatKind.f64.format.order a b == some .eq && (minus a ra == minus b rb)) = ((a : Int) == (b : Int)) := by
  rw [minus_sg na hra, minus_sg nb hrb, fmt64]
  by_cases h : a = b
  · subst h
    rw [order_self na]
    simp
  · have : ((a : Int) == (b : Int)) = false := by simp; omega
    rw [this]
    cases ho : (Ieee.double.order a b == some .eq) with
    | false => rfl
    | true =>
      cases hs : (sg a == sg b) with
      | false => rfl
      | true =>
        exfalso
        exact h (eq_of_order ha hb na nb (by simpa using ho) (by simpa using hs))
end Go.Proofs.Ytbgacfjocjcffaa.Fk
