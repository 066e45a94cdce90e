/-
  Plain law of Nearest: cutting, then mending by the rest, gives the nearest whole number, ties to even.
  Conditions: none; nothing of the program stands here.
-/
import Derived.Test.YtbgacfjocjcffaaNa
namespace Go.Proofs.Ytbgacfjocjcffaa.Nb
open Go Go.Proofs.Ytbgacfjocjcffaa.Fk Go.Proofs.Ytbgacfjocjcffaa.Na

def sgn (s : Bool) (q : Nat) : Int := if s then -(q : Int) else q
theorem signed_sgn (s : Bool) (q : Nat) : Ieee.signed s q 0 = sgn s q := by
  rw [signed_mul]; unfold sgn; simp

theorem is_number {x : Nat} {s : Bool} {m T : Nat} (hx : Ieee.double.read x = .number s m ((T : Nat) - 1074)) : Is x (sgn s m * (2 : Int) ^ T) :=
  ⟨s, m, T, hx, (signed_mul s m T).symm⟩
theorem sgn_abs {s : Bool} {q b : Nat} (h : q ≤ b) : (sgn s q).natAbs ≤ b := by
  unfold sgn; cases s <;> simp only [Bool.false_eq_true, if_false, if_true] <;> omega
theorem is_half : Is 4602678819172646912 ((2 : Int) ^ 1073) := by
  refine ⟨_, _, _, half64, ?_⟩
  rw [signed_mul, show 1073 = 52 + 1021 from rfl, pow_add 52 1021]
  congr 1
theorem is_max : Is 4831355200913801216 (1000000000000000 * (2 : Int) ^ 1074) := by
  refine ⟨_, _, _, max64', ?_⟩
  rw [signed_mul, show 1074 = 3 + 1071 from rfl, pow_add 3 1071, ← Int.mul_assoc]
  congr 1
theorem is_min : Is 14054727237768577024 (-(1000000000000000 * (2 : Int) ^ 1074)) := by
  refine ⟨_, _, _, min64', ?_⟩
  rw [signed_mul, show 1074 = 3 + 1071 from rfl, pow_add 3 1071, ← Int.mul_assoc, ← Int.neg_mul]
  congr 1

theorem split_pow {T : Nat} (h : T ≤ 1074) : (2 : Int) ^ 1074 = ((2 ^ (1074 - T) : Nat) : Int) * (2 : Int) ^ T := by
  rw [Int.natCast_pow, show ((2 : Nat) : Int) = 2 from rfl, ← pow_add, show 1074 - T + T = 1074 from by omega]

theorem guard {x : Nat} {s : Bool} {m T : Nat} (hx : Ieee.double.read x = .number s m ((T : Nat) - 1074)) (hm : 0 < T → 4503599627370496 ≤ m)
    (h1 : (Ieee.double.order x 14054727237768577024 == some .lt) = false) (h2 : (Ieee.double.order x 4831355200913801216 == some .gt) = false) :
    T < 1074 ∧ m / 2 ^ (1074 - T) ≤ 1000000000000000 := by
  rw [(is_number hx).lt is_min] at h1
  rw [(is_number hx).gt is_max] at h2
  have h1' := of_decide_eq_false h1
  have h2' := of_decide_eq_false h2
  have hb : (m : Int) * (2 : Int) ^ T ≤ 1000000000000000 * (2 : Int) ^ 1074 := by
    unfold sgn at h1' h2'
    cases s
    · simp only [Bool.false_eq_true, if_false] at h2'; omega
    · simp only [if_true, Int.neg_mul] at h1'; omega
  have hT : T < 1074 := by
    rcases Nat.lt_or_ge T 1074 with h | h
    · exact h
    · exfalso
      have h3 := hm (by omega)
      rw [show T = (T - 1074) + 1074 from by omega, pow_add, ← Int.mul_assoc] at hb
      have h4 := Int.le_of_mul_le_mul_right hb (pow_pos 1074)
      have h5 : (1 : Int) ≤ (2 : Int) ^ (T - 1074) := pow_pos _
      have h6 : (m : Int) * 1 ≤ m * (2 : Int) ^ (T - 1074) := Int.mul_le_mul_of_nonneg_left h5 (by omega)
      omega
  refine ⟨hT, ?_⟩
  rw [split_pow (Nat.le_of_lt hT), ← Int.mul_assoc] at hb
  have h4 := Int.le_of_mul_le_mul_right hb (pow_pos T)
  have h5 : m ≤ 1000000000000000 * 2 ^ (1074 - T) := by
    have e : (1000000000000000 : Int) * ((2 ^ (1074 - T) : Nat) : Int) = ((1000000000000000 * 2 ^ (1074 - T) : Nat) : Int) := by rw [Int.natCast_mul]; rfl
    rw [e] at h4
    exact Int.ofNat_le.1 h4
  exact Nat.div_le_of_le_mul (by rw [Nat.mul_comm]; exact h5)

theorem trunc {x : Nat} {s : Bool} {m T : Nat} (hx : Ieee.double.read x = .number s m ((T : Nat) - 1074)) (hT : T < 1074) :
    (Ieee.double.read x).toInt .zero = some (sgn s (m / 2 ^ (1074 - T))) := by
  unfold Ieee.Datum.toInt Ieee.Datum.integral
  rw [hx]
  simp only
  rw [cut_zero, show ((T : Int) - 1074).toNat = 0 from by omega, show (-((T : Int) - 1074)).toNat = 1074 - T from by omega, Nat.shiftLeft_zero, signed_sgn]

def Q (m T : Nat) : Nat := m / 2 ^ (1074 - T) + (up m (1074 - T)).toNat

theorem even_read {x : Nat} {s : Bool} {m T : Nat} (hx : Ieee.double.read x = .number s m ((T : Nat) - 1074)) (hT : T < 1074) (hq : m / 2 ^ (1074 - T) ≤ 1000000000000000) :
    (Ieee.double.read (Ieee.double.write ((Ieee.double.read x).integral .even))).toInt .zero = some (sgn s (Q m T)) := by
  have hQ : Q m T < 9007199254740992 := by
    unfold Q
    have : (up m (1074 - T)).toNat ≤ 1 := Bool.toNat_le _
    omega
  have e : (Ieee.double.read x).integral .even = .number s (Q m T) 0 := by
    unfold Ieee.Datum.integral
    rw [hx]
    simp only
    rw [cut_even, show ((T : Int) - 1074).toNat = 0 from by omega, show (-((T : Int) - 1074)).toNat = 1074 - T from by omega, Nat.shiftLeft_zero]
    rfl
  rw [e]
  obtain ⟨m', U, hr, hv⟩ := nearest_exact s (Q m T) 0 1074 hQ (by omega)
  rw [Nat.pow_zero, Nat.mul_one] at hr hv
  show (Ieee.double.read (Ieee.double.nearest s (Q m T) (((1074 : Nat) : Int) - 1074))).toInt .zero = _
  unfold Ieee.Datum.toInt Ieee.Datum.integral
  rw [hr]
  simp only
  rw [cut_zero, show ((U : Int) - 1074).toNat = U - 1074 from by omega, show (-((U : Int) - 1074)).toNat = 1074 - U from by omega, Nat.shiftLeft_eq, signed_sgn]
  congr 2
  refine Nat.div_eq_of_eq_mul_left (Nat.two_pow_pos _) ?_
  refine Nat.eq_of_mul_eq_mul_right (Nat.two_pow_pos (min U 1074)) ?_
  rw [Nat.mul_assoc, Nat.mul_assoc, ← Nat.pow_add, ← Nat.pow_add, show U - 1074 + min U 1074 = U from by omega, show 1074 - U + min U 1074 = 1074 from by omega]
  exact hv

theorem up_test {x : Nat} {s : Bool} {m T : Nat} (hx : Ieee.double.read x = .number s m ((T : Nat) - 1074)) (hT : T < 1074) (hq : m / 2 ^ (1074 - T) ≤ 1000000000000000) :
    (Ieee.double.order (floatOfInt .f64 (sgn s (m / 2 ^ (1074 - T)))) x == some .gt) = (s && m % 2 ^ (1074 - T) != 0) := by
  have hf := is_float (sgn s (m / 2 ^ (1074 - T))) (Nat.lt_of_le_of_lt (sgn_abs hq) (by decide))
  rw [hf.gt (is_number hx), split_pow (Nat.le_of_lt hT), ← Int.mul_assoc]
  have hdm := Nat.div_add_mod m (2 ^ (1074 - T))
  have hD : 0 < 2 ^ (1074 - T) := Nat.two_pow_pos _
  have hdm' : ((m / 2 ^ (1074 - T) : Nat) : Int) * ((2 ^ (1074 - T) : Nat) : Int) + ((m % 2 ^ (1074 - T) : Nat) : Int) = m := by
    rw [← Int.natCast_mul, ← Int.natCast_add, Nat.mul_comm, hdm]
  generalize hq' : m / 2 ^ (1074 - T) = q at *
  generalize m % 2 ^ (1074 - T) = ρ at *
  generalize 2 ^ (1074 - T) = D at *
  have key : (sgn s m * (2 : Int) ^ T < sgn s q * (D : Int) * (2 : Int) ^ T) ↔ (s = true ∧ ρ ≠ 0) := by
    rw [Int.mul_lt_mul_right (pow_pos T)]
    unfold sgn
    cases s
    · simp only [Bool.false_eq_true, if_false, false_and, iff_false]; omega
    · simp only [if_true, true_and, Int.neg_mul]; omega
  by_cases hs : s = true ∧ ρ ≠ 0
  · rw [decide_eq_true (key.2 hs)]
    have hb : (ρ != 0) = true := bne_iff_ne.2 hs.2
    rw [hs.1, hb]; rfl
  · rw [decide_eq_false (fun h => hs (key.1 h))]
    cases s
    · rfl
    · have h0 : ρ = 0 := Decidable.byContradiction fun h => hs ⟨rfl, h⟩
      rw [h0]; rfl

def odd (n : Int) : Bool := n.tmod 2 != 0
theorem odd_mod (n : Int) : odd n = decide (n % 2 = 1) := by
  unfold odd
  by_cases h : n % 2 = 1
  · rw [decide_eq_true h]
    have : ¬ n.tmod 2 = 0 := fun h' => by
      have := Int.emod_eq_zero_of_dvd (Int.dvd_of_tmod_eq_zero h')
      omega
    simpa using this
  · rw [decide_eq_false h]
    have : n.tmod 2 = 0 := Int.tmod_eq_zero_of_dvd (Int.dvd_of_emod_eq_zero (by omega))
    rw [this]; rfl
def fin (n : Int) (r : Nat) : Int := if (Ieee.double.order r 4602678819172646912 == some .gt) || ((Ieee.double.order r 4602678819172646912 == some .eq) && odd n) then n + 1 else n

theorem half_gt {r R T : Nat} (hr : Is r ((R : Int) * (2 : Int) ^ T)) (hT : T < 1074) : (Ieee.double.order r 4602678819172646912 == some .gt) = decide (2 ^ (1074 - T) < 2 * R) := by
  rw [hr.gt is_half]
  refine decide_eq_decide.2 ?_
  have h := split_pow (Nat.le_of_lt hT)
  rw [show 1074 = 1 + 1073 from rfl, pow_add 1 1073, show (2 : Int) ^ 1 = 2 from rfl, show 1 + 1073 = 1074 from rfl] at h
  have hp := pow_pos T
  have e : 2 * ((R : Int) * (2 : Int) ^ T) = ((2 * R : Nat) : Int) * (2 : Int) ^ T := by rw [← Int.mul_assoc, Int.natCast_mul]; rfl
  have k := @Int.mul_lt_mul_right ((2 : Int) ^ T) ((2 ^ (1074 - T) : Nat) : Int) ((2 * R : Nat) : Int) hp
  rw [← e, ← h] at k
  omega
theorem half_eq {r R T : Nat} (hr : Is r ((R : Int) * (2 : Int) ^ T)) (hT : T < 1074) : (Ieee.double.order r 4602678819172646912 == some .eq) = decide (2 * R = 2 ^ (1074 - T)) := by
  rw [hr.eq is_half]
  refine decide_eq_decide.2 ?_
  have h := split_pow (Nat.le_of_lt hT)
  rw [show 1074 = 1 + 1073 from rfl, pow_add 1 1073, show (2 : Int) ^ 1 = 2 from rfl, show 1 + 1073 = 1074 from rfl] at h
  have hp := pow_pos T
  have e : 2 * ((R : Int) * (2 : Int) ^ T) = ((2 * R : Nat) : Int) * (2 : Int) ^ T := by rw [← Int.mul_assoc, Int.natCast_mul]; rfl
  constructor
  · intro h1
    have : ((2 * R : Nat) : Int) * (2 : Int) ^ T = ((2 ^ (1074 - T) : Nat) : Int) * (2 : Int) ^ T := by rw [← e, ← h]; omega
    have := Int.eq_of_mul_eq_mul_right (Int.ne_of_gt hp) this
    exact Int.ofNat_inj.1 this
  · intro h1
    rw [h1] at e
    omega

/-- THE REST THAT FITS. -/
theorem rest_fits {x : Nat} {s : Bool} {m T R : Nat} {n : Int} (hx : Ieee.double.read x = .number s m ((T : Nat) - 1074)) (hT : T < 1074) (hn : n.natAbs < 9007199254740992) (hR : R < 9007199254740992)
    (h : sgn s m - n * ((2 ^ (1074 - T) : Nat) : Int) = (R : Int)) :
    ∃ r, floatBits .sub .f64 x (floatOfInt .f64 n) = some r ∧ fin n r = if decide (2 ^ (1074 - T) < 2 * R) || (decide (2 * R = 2 ^ (1074 - T)) && decide (n % 2 = 1)) then n + 1 else n := by
  obtain ⟨r, h1, h2⟩ := rest_exact (R := R) hx (Nat.le_of_lt hT) (is_float n hn) hR (by
    rw [signed_mul, split_pow (Nat.le_of_lt hT), ← Int.mul_assoc, ← Int.sub_mul, ← h]; rfl)
  refine ⟨r, h1, ?_⟩
  unfold fin
  rw [half_gt h2 hT, half_eq h2 hT, odd_mod]

/-- THE REST THAT DOES NOT: at least a half, rounded at least a half. -/
theorem far_half {d mag T : Nat} (hd : 54 ≤ d) (hT : T + d = 1074) (h1 : 2 ^ (d - 1) ≤ mag) (h2 : mag < 2 ^ d) :
    ∃ v, Is (Ieee.double.nearest false mag ((T : Int) - 1074)) v ∧ (2 : Int) ^ 1073 ≤ v := by
  have hp1 : 0 < 2 ^ (d - 1) := Nat.two_pow_pos _
  have hm0 : mag ≠ 0 := by omega
  have hL : mag.log2 = d - 1 := (Nat.log2_eq_iff hm0).2 ⟨h1, by rw [show d - 1 + 1 = d from by omega]; exact h2⟩
  unfold Ieee.Format.nearest
  rw [if_neg hm0]
  dsimp only
  rw [hL, least64, binade64, infRung64, show ((Ieee.double.fractionBits : Nat) : Int) = 52 from rfl]
  rw [show max ((T : Int) - 1074 + ((d - 1 : Nat) : Int) - 52) (-1074) = -53 from by omega]
  rw [show ((T : Int) - 1074 - (-53)).toNat = 0 from by omega, show ((-53 : Int) - ((T : Int) - 1074)).toNat = d - 53 from by omega, show ((-53 : Int) - -1074).toNat = 1021 from by omega, Nat.shiftLeft_zero, cut_even]
  have hu : (up mag (d - 53)).toNat ≤ 1 := Bool.toNat_le _
  have hl : 4503599627370496 ≤ mag / 2 ^ (d - 53) := by
    rw [Nat.le_div_iff_mul_le (Nat.two_pow_pos _), show 4503599627370496 = 2 ^ 52 from rfl, ← Nat.pow_add, show 52 + (d - 53) = d - 1 from by omega]
    exact h1
  have hh : mag / 2 ^ (d - 53) < 9007199254740992 := by
    rw [Nat.div_lt_iff_lt_mul (Nat.two_pow_pos _), show 9007199254740992 = 2 ^ 53 from rfl, ← Nat.pow_add, show 53 + (d - 53) = d from by omega]
    exact h2
  generalize mag / 2 ^ (d - 53) = K at *
  generalize (up mag (d - 53)).toNat = u at *
  rw [Nat.min_eq_left (by omega)]
  rcases Nat.lt_or_ge (K + u) 9007199254740992 with h | h
  · refine ⟨_, ⟨_, _, _, read_rung false 1021 (K + u) (.inr (by omega)) h (by omega), rfl⟩, ?_⟩
    rw [signed_mul, show 1073 = 52 + 1021 from rfl, pow_add 52 1021]
    refine Int.mul_le_mul_of_nonneg_right ?_ (Int.le_of_lt (pow_pos _))
    simp only [Bool.false_eq_true, if_false]
    show (4503599627370496 : Int) ≤ _
    omega
  · rw [show 1021 * 4503599627370496 + (K + u) = 1022 * 4503599627370496 + 4503599627370496 from by omega]
    refine ⟨_, ⟨_, _, _, read_rung false 1022 4503599627370496 (.inr (by omega)) (by omega) (by omega), rfl⟩, ?_⟩
    rw [signed_mul, show 1073 = 51 + 1022 from rfl, pow_add 51 1022]
    refine Int.mul_le_mul_of_nonneg_right ?_ (Int.le_of_lt (pow_pos _))
    simp only [Bool.false_eq_true, if_false]
    show (2251799813685248 : Int) ≤ _
    decide

theorem Q_eq (m T : Nat) : Q m T = if 2 ^ (1074 - T) < 2 * (m % 2 ^ (1074 - T)) ∨ (2 ^ (1074 - T) = 2 * (m % 2 ^ (1074 - T)) ∧ m / 2 ^ (1074 - T) % 2 = 1) then m / 2 ^ (1074 - T) + 1 else m / 2 ^ (1074 - T) := by
  have h : up m (1074 - T) = decide (2 ^ (1074 - T) < 2 * (m % 2 ^ (1074 - T)) ∨ (2 ^ (1074 - T) = 2 * (m % 2 ^ (1074 - T)) ∧ m / 2 ^ (1074 - T) % 2 = 1)) := by
    unfold up
    rw [Bool.eq_iff_iff]
    simp
  unfold Q
  rw [h]
  split
  · rename_i hc; rw [decide_eq_true hc]; rfl
  · rename_i hc; rw [decide_eq_false hc]; rfl

theorem rest_fits' {x : Nat} {s : Bool} {m T R : Nat} {n : Int} (hx : Ieee.double.read x = .number s m ((T : Nat) - 1074)) (hT : T < 1074) (hn : n.natAbs < 9007199254740992) (hR : R < 9007199254740992)
    (h : sgn s m - n * ((2 ^ (1074 - T) : Nat) : Int) = (R : Int)) :
    ∃ r, floatBits .sub .f64 x (floatOfInt .f64 n) = some r ∧ fin n r = if 2 ^ (1074 - T) < 2 * R ∨ (2 * R = 2 ^ (1074 - T) ∧ n % 2 = 1) then n + 1 else n := by
  obtain ⟨r, h1, h2⟩ := rest_fits hx hT hn hR h
  refine ⟨r, h1, h2.trans ?_⟩
  by_cases hc : 2 ^ (1074 - T) < 2 * R ∨ (2 * R = 2 ^ (1074 - T) ∧ n % 2 = 1)
  · rw [if_pos hc, if_pos]; simpa using hc
  · rw [if_neg hc, if_neg]; simpa using hc

theorem minus_one : Ieee.double.read (floatOfInt .f64 (-1)) = .number true 4503599627370496 ((1022 : Nat) - 1074) := by decide

theorem far_mend {x m T : Nat} (hx : Ieee.double.read x = .number true m ((T : Nat) - 1074)) (hm : m < 9007199254740992) (hd : 54 ≤ 1074 - T) (h0 : 0 < m) :
    ∃ r, floatBits .sub .f64 x (floatOfInt .f64 (-1)) = some r ∧ fin (-1) r = 0 := by
  obtain ⟨neg, mag, h1, h2⟩ := sub_exact hx minus_one
  rw [show min T 1022 = T from by omega] at h1 h2
  have hD : (2 : Nat) ^ (1074 - T) = 2 * 2 ^ (1074 - T - 1) := by rw [← Nat.pow_succ']; congr 1; omega
  have hD2 : 9007199254740992 ≤ 2 ^ (1074 - T - 1) := by
    rw [show 9007199254740992 = 2 ^ 53 from rfl]
    exact Nat.pow_le_pow_right (by omega) (by omega)
  have e : Ieee.signed true 4503599627370496 1022 = -((2 ^ (1074 - T) : Nat) : Int) * (2 : Int) ^ T := by
    rw [signed_mul, Int.natCast_pow, show ((2 : Nat) : Int) = 2 from rfl, if_pos rfl, Int.neg_mul, Int.neg_mul, ← pow_add, show 1074 - T + T = 52 + 1022 from by omega, pow_add 52 1022]
    congr 1
  rw [e, signed_mul, signed_mul, ← Int.sub_mul] at h2
  have h3 := Int.eq_of_mul_eq_mul_right (Int.ne_of_gt (pow_pos _)) h2
  rw [if_pos rfl] at h3
  have hh : mag = 2 ^ (1074 - T) - m ∧ neg = false := by
    generalize 2 ^ (1074 - T) = D at *
    generalize 2 ^ (1074 - T - 1) = H at *
    cases neg
    · simp only [Bool.false_eq_true, if_false] at h3
      exact ⟨by omega, rfl⟩
    · simp only [if_true] at h3
      omega
  obtain ⟨hh, rfl⟩ := hh
  obtain ⟨v, hv, hle⟩ := far_half (d := 1074 - T) (mag := mag) (T := T) hd (by omega) (by omega) (by omega)
  refine ⟨_, h1, ?_⟩
  unfold fin
  rw [hv.gt is_half, hv.eq is_half]
  have ho : odd (-1) = true := by decide
  rw [ho]
  generalize (2 : Int) ^ 1073 = P at *
  by_cases hc : P < v
  · rw [decide_eq_true hc]; rfl
  · rw [decide_eq_false hc, decide_eq_true (show v = P by omega)]; rfl

/-- THE MENDED CUT IS THE NEAREST. -/
theorem mend {x : Nat} {s : Bool} {m T : Nat} (hx : Ieee.double.read x = .number s m ((T : Nat) - 1074)) (hm : m < 9007199254740992) (hT : T < 1074) (hq : m / 2 ^ (1074 - T) ≤ 1000000000000000) :
    ∃ r, floatBits .sub .f64 x (floatOfInt .f64 (if (s && m % 2 ^ (1074 - T) != 0) = true then sgn s (m / 2 ^ (1074 - T)) - 1 else sgn s (m / 2 ^ (1074 - T)))) = some r ∧
      fin (if (s && m % 2 ^ (1074 - T) != 0) = true then sgn s (m / 2 ^ (1074 - T)) - 1 else sgn s (m / 2 ^ (1074 - T))) r = sgn s (Q m T) := by
  have hdm := Nat.div_add_mod m (2 ^ (1074 - T))
  have hD : 0 < 2 ^ (1074 - T) := Nat.two_pow_pos _
  have hlt := Nat.mod_lt m hD
  have hle := Nat.mod_le m (2 ^ (1074 - T))
  have hdm' : ((m / 2 ^ (1074 - T) : Nat) : Int) * ((2 ^ (1074 - T) : Nat) : Int) + ((m % 2 ^ (1074 - T) : Nat) : Int) = m := by
    rw [← Int.natCast_mul, ← Int.natCast_add, Nat.mul_comm, hdm]
  rw [Q_eq]
  cases s
  · simp only [Bool.false_and, Bool.false_eq_true, if_false]
    obtain ⟨r, h1, h2⟩ := rest_fits' (R := m % 2 ^ (1074 - T)) (n := sgn false (m / 2 ^ (1074 - T))) hx hT (Nat.lt_of_le_of_lt (sgn_abs hq) (by decide)) (by omega) (by unfold sgn; simp only [Bool.false_eq_true, if_false]; omega)
    refine ⟨r, h1, h2.trans ?_⟩
    clear h1 h2 hx hdm hdm'
    unfold sgn
    simp only [Bool.false_eq_true, if_false]
    generalize m / 2 ^ (1074 - T) = q at *
    generalize m % 2 ^ (1074 - T) = ρ at *
    generalize 2 ^ (1074 - T) = D at *
    split <;> split <;> omega
  · by_cases h0 : m % 2 ^ (1074 - T) = 0
    · have hc : ¬ (true && m % 2 ^ (1074 - T) != 0) = true := by rw [h0]; decide
      rw [if_neg hc]
      obtain ⟨r, h1, h2⟩ := rest_fits' (R := 0) (n := sgn true (m / 2 ^ (1074 - T))) hx hT (Nat.lt_of_le_of_lt (sgn_abs hq) (by decide)) (by omega) (by unfold sgn; simp only [if_true, Int.neg_mul]; omega)
      refine ⟨r, h1, h2.trans ?_⟩
      clear h1 h2 hx hdm hdm'
      unfold sgn
      simp only [if_true]
      generalize m / 2 ^ (1074 - T) = q at *
      generalize m % 2 ^ (1074 - T) = ρ at *
      generalize 2 ^ (1074 - T) = D at *
      split <;> split <;> omega
    · have hc : (true && m % 2 ^ (1074 - T) != 0) = true := by simpa using h0
      rw [if_pos hc]
      rcases Nat.lt_or_ge (1074 - T) 54 with hd | hd
      · have hDu : 2 ^ (1074 - T) ≤ 9007199254740992 := by
          rw [show 9007199254740992 = 2 ^ 53 from rfl]
          exact Nat.pow_le_pow_right (by omega) (by omega)
        obtain ⟨r, h1, h2⟩ := rest_fits' (R := 2 ^ (1074 - T) - m % 2 ^ (1074 - T)) (n := sgn true (m / 2 ^ (1074 - T)) - 1) hx hT (by have := sgn_abs (s := true) hq; omega) (by omega) (by
          unfold sgn
          simp only [if_true, Int.neg_mul, Int.sub_mul, Int.one_mul]
          omega)
        refine ⟨r, h1, h2.trans ?_⟩
        clear h1 h2 hx hdm hdm'
        unfold sgn
        simp only [if_true]
        generalize m / 2 ^ (1074 - T) = q at *
        generalize m % 2 ^ (1074 - T) = ρ at *
        generalize 2 ^ (1074 - T) = D at *
        split <;> split <;> omega
      · have hDl : 18014398509481984 ≤ 2 ^ (1074 - T) := by
          rw [show 18014398509481984 = 2 ^ 54 from rfl]
          exact Nat.pow_le_pow_right (by omega) (by omega)
        have hq0 : m / 2 ^ (1074 - T) = 0 := Nat.div_eq_of_lt (by omega)
        have hm0 : m % 2 ^ (1074 - T) = m := Nat.mod_eq_of_lt (by omega)
        rw [hm0] at h0
        rw [hq0, hm0, show sgn true 0 - 1 = -1 from rfl, if_neg (by omega)]
        exact far_mend hx hm hd (by omega)
end Go.Proofs.Ytbgacfjocjcffaa.Nb
