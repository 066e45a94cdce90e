/-
  Plain facts on float64: cutting to a whole number, exact numbers written and read back, order and difference of numbers in units of the least place.
  Conditions: none; nothing of the program stands here.
-/
import Derived.Test.YtbgacfjocjcffaaFt
namespace Go.Proofs.Ytbgacfjocjcffaa.Na
open Go Go.Proofs.Ytbgacfjocjcffaa.Fk

def up (n d : Nat) : Bool := decide (2 ^ d < 2 * (n % 2 ^ d)) || (2 ^ d == 2 * (n % 2 ^ d) && n / 2 ^ d % 2 == 1)

theorem gap_far {n d : Nat} (h : n.log2 + 2 < d) : n < 2 ^ (n.log2 + 2) ∧ 2 * n < 2 ^ (n.log2 + 2) ∧ n < 2 ^ d ∧ 2 * n < 2 ^ d := by
  have h1 : n < 2 ^ (n.log2 + 1) := Nat.lt_log2_self
  have h2 : 2 ^ (n.log2 + 2) = 2 ^ (n.log2 + 1) * 2 := Nat.pow_succ ..
  have h3 : 2 ^ (n.log2 + 2) ≤ 2 ^ d := Nat.pow_le_pow_right (by omega) (by omega)
  omega

theorem cut_even (s : Bool) (n d : Nat) : Ieee.Toward.even.cut s n d = n / 2 ^ d + (up n d).toNat := by
  unfold Ieee.Toward.cut up
  dsimp only
  rw [Nat.one_shiftLeft]
  rcases Nat.lt_or_ge (n.log2 + 2) d with h | h
  · rw [show min d (n.log2 + 2) = n.log2 + 2 from by omega]
    obtain ⟨h1, h2, h3, h4⟩ := gap_far h
    rw [Nat.div_eq_of_lt h1, Nat.mod_eq_of_lt h1, Nat.div_eq_of_lt h3, Nat.mod_eq_of_lt h3]
    rw [decide_eq_false (by omega), decide_eq_false (by omega)]
    simp
  · rw [show min d (n.log2 + 2) = d from by omega]

theorem cut_zero (s : Bool) (n d : Nat) : Ieee.Toward.zero.cut s n d = n / 2 ^ d := by
  unfold Ieee.Toward.cut
  dsimp only
  rw [Nat.one_shiftLeft]
  rcases Nat.lt_or_ge (n.log2 + 2) d with h | h
  · rw [show min d (n.log2 + 2) = n.log2 + 2 from by omega]
    obtain ⟨h1, h2, h3, h4⟩ := gap_far h
    rw [Nat.div_eq_of_lt h1, Nat.div_eq_of_lt h3]; rfl
  · rw [show min d (n.log2 + 2) = d from by omega]; rfl

theorem up_zero {n d : Nat} (h : n % 2 ^ d = 0) : up n d = false := by
  have hp : 0 < 2 ^ d := Nat.two_pow_pos _
  unfold up
  rw [h, decide_eq_false (by omega)]
  have : (2 ^ d == 2 * 0) = false := by simp
  rw [this]; rfl

theorem read_rung (neg : Bool) (E K : Nat) (h : E = 0 ∨ 4503599627370496 ≤ K) (hK : K < 9007199254740992) (hE : E ≤ 2000) :
    Ieee.double.read (Ieee.double.word neg (E * 4503599627370496 + K)) = .number neg K ((E : Int) - 1074) := by
  unfold Ieee.Format.read Ieee.Format.word
  dsimp only
  rw [signWeight64, infRung64, binade64, least64]
  have hs : (if neg = true then 9223372036854775808 + (E * 4503599627370496 + K) else E * 4503599627370496 + K) % 9223372036854775808 = E * 4503599627370496 + K := by
    cases neg <;> simp only [Bool.false_eq_true, if_false, if_true] <;> omega
  have hn : ((if neg = true then 9223372036854775808 + (E * 4503599627370496 + K) else E * 4503599627370496 + K) / 9223372036854775808 % 2 == 1) = neg := by
    cases neg
    · simp only [Bool.false_eq_true, if_false]
      rw [show (E * 4503599627370496 + K) / 9223372036854775808 = 0 from by omega]; rfl
    · simp only [if_true]
      rw [show (9223372036854775808 + (E * 4503599627370496 + K)) / 9223372036854775808 = 1 from by omega]; rfl
  rw [hs, hn]
  by_cases h1 : E * 4503599627370496 + K < 4503599627370496
  · rw [if_pos h1]
    have : E = 0 := by omega
    subst this
    rw [show 0 * 4503599627370496 + K = K from by omega]; rfl
  · rw [if_neg h1, if_pos (by omega)]
    rw [show 4503599627370496 + (E * 4503599627370496 + K) % 4503599627370496 = K from by omega]
    congr 1
    omega

theorem pow_le_of {a b : Nat} (h : 2 ^ a ≤ 2 ^ b) : a ≤ b := (Nat.pow_le_pow_iff_right (by omega)).1 h
theorem lt_of_mul {a b c : Nat} (h : a * c < b * c) : a < b := Nat.lt_of_mul_lt_mul_right h

theorem min_rung {T K : Nat} (h : T ≤ 1974) (hK : K < 9007199254740992) : min (T * 4503599627370496 + K) 9218868437227405312 = T * 4503599627370496 + K := by omega
/-- WHAT FITS IS WRITTEN EXACTLY. Places are told in units of the least place. -/
theorem nearest_exact (neg : Bool) (r e P : Nat) (hr : r < 9007199254740992) (h2 : P + e ≤ 1974) :
    ∃ m T : Nat, Ieee.double.read (Ieee.double.nearest neg (r * 2 ^ e) ((P : Int) - 1074)) = .number neg m ((T : Int) - 1074) ∧ m * 2 ^ T = r * 2 ^ e * 2 ^ P := by
  rcases Nat.eq_zero_or_pos r with h0 | h0
  · subst h0
    refine ⟨0, 0, ?_, by simp⟩
    unfold Ieee.Format.nearest
    rw [if_pos (by simp)]
    exact read_rung neg 0 0 (.inl rfl) (by omega) (by omega)
  · have hp : 0 < 2 ^ e := Nat.two_pow_pos _
    have hn0 : r * 2 ^ e ≠ 0 := Nat.mul_ne_zero (by omega) (by omega)
    have hL1 : 2 ^ (r * 2 ^ e).log2 ≤ r * 2 ^ e := Nat.log2_self_le hn0
    have hL2 : r * 2 ^ e < 2 ^ ((r * 2 ^ e).log2 + 1) := Nat.lt_log2_self
    have hL3 : (r * 2 ^ e).log2 < 53 + e := by
      have : 2 ^ (r * 2 ^ e).log2 < 2 ^ (53 + e) := by
        rw [Nat.pow_add]
        exact Nat.lt_of_le_of_lt hL1 (Nat.mul_lt_mul_of_pos_right (by omega) hp)
      exact (Nat.pow_lt_pow_iff_right (by omega)).1 this
    unfold Ieee.Format.nearest
    rw [if_neg hn0]
    dsimp only
    generalize hn : (r * 2 ^ e).log2 = L at *
    rw [least64, binade64, infRung64, show ((Ieee.double.fractionBits : Nat) : Int) = 52 from rfl]
    have hlast : max ((P : Int) - 1074 + (L : Int) - 52) (-1074) = ((P + L - 52 : Nat) : Int) - 1074 := by omega
    rw [hlast]
    generalize hT : P + L - 52 = T
    rw [show ((P : Int) - 1074 - ((T : Int) - 1074)).toNat = P - T from by omega, show ((T : Int) - 1074 - ((P : Int) - 1074)).toNat = T - P from by omega,
      show ((T : Int) - 1074 - -1074).toNat = T from by omega, Nat.shiftLeft_eq, cut_even]
    have hdrop : ∃ K, r * 2 ^ e * 2 ^ (P - T) = K * 2 ^ (T - P) := by
      rcases Nat.le_total T P with h | h
      · exact ⟨r * 2 ^ e * 2 ^ (P - T), by rw [show T - P = 0 from by omega]; simp⟩
      · refine ⟨r * 2 ^ (e - (T - P)), ?_⟩
        rw [show P - T = 0 from by omega, Nat.pow_zero, Nat.mul_one, Nat.mul_assoc, ← Nat.pow_add]
        congr 2
        omega
    obtain ⟨K, hK⟩ := hdrop
    have hq : 0 < 2 ^ (T - P) := Nat.two_pow_pos _
    rw [up_zero (by rw [hK]; exact Nat.mul_mod_left _ _), hK, Nat.mul_div_cancel _ hq]
    have hval : K * 2 ^ T = r * 2 ^ e * 2 ^ P := by
      rcases Nat.le_total T P with h | h
      · rw [show T - P = 0 from by omega, Nat.pow_zero, Nat.mul_one] at hK
        rw [← hK, Nat.mul_assoc, ← Nat.pow_add]
        congr 2
        omega
      · rw [show P - T = 0 from by omega, Nat.pow_zero, Nat.mul_one] at hK
        rw [hK, Nat.mul_assoc, ← Nat.pow_add]
        congr 2
        omega
    have hPp : 0 < 2 ^ P := Nat.two_pow_pos _
    have hTp : 0 < 2 ^ T := Nat.two_pow_pos _
    have hKu : K < 9007199254740992 := by
      refine lt_of_mul (c := 2 ^ T) ?_
      rw [hval]
      have h3 : r * 2 ^ e * 2 ^ P < 2 ^ (L + 1) * 2 ^ P := Nat.mul_lt_mul_of_pos_right hL2 hPp
      rw [← Nat.pow_add] at h3
      have h4 : 2 ^ (L + 1 + P) ≤ 2 ^ (53 + T) := Nat.pow_le_pow_right (by omega) (by omega)
      rw [Nat.pow_add 2 53 T] at h4
      exact Nat.lt_of_lt_of_le h3 h4
    have hKl : T = 0 ∨ 4503599627370496 ≤ K := by
      rcases Nat.eq_zero_or_pos T with h | h
      · exact .inl h
      · refine .inr (Nat.le_of_mul_le_mul_right (c := 2 ^ T) ?_ hTp)
        rw [hval]
        have h3 : 2 ^ L * 2 ^ P ≤ r * 2 ^ e * 2 ^ P := Nat.mul_le_mul_right _ hL1
        rw [← Nat.pow_add, show L + P = 52 + T from by omega, Nat.pow_add 2 52 T] at h3
        exact h3
    have hTu : T ≤ 1974 := by clear hval hKl hKu hK hL1 hL2; omega
    refine ⟨K, T, ?_, hval⟩
    rw [show (K + Bool.toNat false) = K from rfl, min_rung hTu hKu]
    exact read_rung neg T K hKl hKu (Nat.le_trans hTu (by decide))

/-- A number's word, and what it stands for in units of the least place. -/
def Is (a : Nat) (v : Int) : Prop := ∃ (s : Bool) (m T : Nat), Ieee.double.read a = .number s m ((T : Nat) - 1074) ∧ v = Ieee.signed s m T

theorem signed_mul (s : Bool) (m T : Nat) : Ieee.signed s m T = (if s then -(m : Int) else m) * (2 : Int) ^ T := by
  have : ((m * 2 ^ T : Nat) : Int) = (m : Int) * (2 : Int) ^ T := by rw [Int.natCast_mul, Int.natCast_pow]; rfl
  unfold Ieee.signed
  rw [Nat.shiftLeft_eq]
  cases s
  · simp only [Bool.false_eq_true, if_false]; exact this
  · simp only [if_true]; rw [this, Int.neg_mul]
theorem pow_pos (T : Nat) : (0 : Int) < (2 : Int) ^ T := by
  have : ((2 ^ T : Nat) : Int) = (2 : Int) ^ T := Int.natCast_pow 2 T
  have h : 0 < 2 ^ T := Nat.two_pow_pos T
  omega
theorem pow_add (a b : Nat) : (2 : Int) ^ (a + b) = (2 : Int) ^ a * (2 : Int) ^ b := Int.pow_add 2 a b
theorem signed_add (s : Bool) (m a b : Nat) : Ieee.signed s m (a + b) = Ieee.signed s m a * (2 : Int) ^ b := by
  rw [signed_mul, signed_mul, pow_add, Int.mul_assoc]

theorem compare_mul (a b : Int) {c : Int} (hc : 0 < c) : compare (a * c) (b * c) = compare a b := by
  cases h : compare a b with
  | lt => rw [cmp_lt] at h ⊢; exact Int.mul_lt_mul_of_pos_right h hc
  | eq => rw [cmp_eq] at h ⊢; rw [h]
  | gt => rw [cmp_gt] at h ⊢; exact Int.mul_lt_mul_of_pos_right h hc

theorem Is.order {a b : Nat} {v w : Int} (ha : Is a v) (hb : Is b w) : Ieee.double.order a b = some (compare v w) := by
  obtain ⟨s, m, T, h1, rfl⟩ := ha
  obtain ⟨t, n, U, h2, rfl⟩ := hb
  unfold Ieee.Format.order
  rw [h1, h2]
  simp only [Ieee.Datum.order]
  rw [show min ((T : Int) - 1074) ((U : Int) - 1074) = ((min T U : Nat) : Int) - 1074 from by omega]
  rw [show ((T : Int) - 1074 - (((min T U : Nat) : Int) - 1074)).toNat = T - min T U from by omega, show ((U : Int) - 1074 - (((min T U : Nat) : Int) - 1074)).toNat = U - min T U from by omega]
  have e1 : Ieee.signed s m T = Ieee.signed s m (T - min T U) * (2 : Int) ^ (min T U) := by rw [← signed_add]; congr 1; omega
  have e2 : Ieee.signed t n U = Ieee.signed t n (U - min T U) * (2 : Int) ^ (min T U) := by rw [← signed_add]; congr 1; omega
  rw [e1, e2, compare_mul _ _ (pow_pos _)]

theorem Is.gt {a b : Nat} {v w : Int} (ha : Is a v) (hb : Is b w) : (Ieee.double.order a b == some .gt) = decide (w < v) := by
  rw [ha.order hb]
  cases h : compare v w with
  | lt => rw [cmp_lt] at h; rw [decide_eq_false (by omega)]; rfl
  | eq => rw [cmp_eq] at h; rw [decide_eq_false (by omega)]; rfl
  | gt => rw [cmp_gt] at h; rw [decide_eq_true (by omega)]; rfl
theorem Is.lt {a b : Nat} {v w : Int} (ha : Is a v) (hb : Is b w) : (Ieee.double.order a b == some .lt) = decide (v < w) := by
  rw [ha.order hb]
  cases h : compare v w with
  | lt => rw [cmp_lt] at h; rw [decide_eq_true (by omega)]; rfl
  | eq => rw [cmp_eq] at h; rw [decide_eq_false (by omega)]; rfl
  | gt => rw [cmp_gt] at h; rw [decide_eq_false (by omega)]; rfl
theorem Is.eq {a b : Nat} {v w : Int} (ha : Is a v) (hb : Is b w) : (Ieee.double.order a b == some .eq) = decide (v = w) := by
  rw [ha.order hb]
  cases h : compare v w with
  | lt => rw [cmp_lt] at h; rw [decide_eq_false (by omega)]; rfl
  | eq => rw [cmp_eq] at h; rw [decide_eq_true (by omega)]; rfl
  | gt => rw [cmp_gt] at h; rw [decide_eq_false (by omega)]; rfl

theorem is_nearest (neg : Bool) (r e P : Nat) (hr : r < 9007199254740992) (h2 : P + e ≤ 1974) :
    Is (Ieee.double.nearest neg (r * 2 ^ e) ((P : Int) - 1074)) (Ieee.signed neg (r * 2 ^ e) P) := by
  obtain ⟨m, T, h, hv⟩ := nearest_exact neg r e P hr h2
  refine ⟨neg, m, T, h, ?_⟩
  unfold Ieee.signed
  rw [Nat.shiftLeft_eq, Nat.shiftLeft_eq, hv]

theorem is_float (N : Int) (h : N.natAbs < 9007199254740992) : Is (floatOfInt .f64 N) (N * (2 : Int) ^ 1074) := by
  have := is_nearest (N < 0) N.natAbs 0 1074 h (by omega)
  rw [Nat.pow_zero, Nat.mul_one, signed_mul] at this
  have e : (if (decide (N < 0)) = true then -(N.natAbs : Int) else (N.natAbs : Int)) = N := by
    by_cases hn : N < 0
    · rw [decide_eq_true hn, if_pos rfl]; omega
    · rw [decide_eq_false hn, if_neg (by decide)]; omega
  rw [e] at this
  exact this

theorem sub_exact {x f : Nat} {s t : Bool} {m n T U : Nat} (hx : Ieee.double.read x = .number s m ((T : Nat) - 1074)) (hf : Ieee.double.read f = .number t n ((U : Nat) - 1074)) :
    ∃ neg mag, floatBits .sub .f64 x f = some (Ieee.double.nearest neg mag (((min T U : Nat) : Int) - 1074)) ∧ Ieee.signed neg mag (min T U) = Ieee.signed s m T - Ieee.signed t n U := by
  have e1 : Ieee.signed s m T = Ieee.signed s m (T - min T U) * (2 : Int) ^ (min T U) := by rw [← signed_add]; congr 1; omega
  have e2 : Ieee.signed t n U = Ieee.signed t n (U - min T U) * (2 : Int) ^ (min T U) := by rw [← signed_add]; congr 1; omega
  have e3 : Ieee.signed (!t) n (U - min T U) = -Ieee.signed t n (U - min T U) := by
    rw [signed_mul, signed_mul]; cases t <;> simp [Int.neg_mul]
  show ∃ neg mag, (((Ieee.double.read x).sum (Ieee.double.read f).opposite).map Ieee.double.write) = some _ ∧ _
  rw [hx, hf]
  simp only [Ieee.Datum.opposite, Ieee.Datum.sum, Option.map_some]
  rw [show min ((T : Int) - 1074) ((U : Int) - 1074) = ((min T U : Nat) : Int) - 1074 from by omega]
  rw [show ((T : Int) - 1074 - (((min T U : Nat) : Int) - 1074)).toNat = T - min T U from by omega, show ((U : Int) - 1074 - (((min T U : Nat) : Int) - 1074)).toNat = U - min T U from by omega, e3]
  rw [e1, e2, ← Int.sub_mul, ← Int.sub_eq_add_neg]
  generalize Ieee.signed s m (T - min T U) - Ieee.signed t n (U - min T U) = z
  refine ⟨_, _, rfl, ?_⟩
  rw [signed_mul]
  congr 1
  by_cases h0 : z = 0
  · rw [if_pos h0, h0]; cases (s && !t) <;> rfl
  · rw [if_neg h0]
    by_cases hn : z < 0
    · rw [decide_eq_true hn, if_pos rfl]; omega
    · rw [decide_eq_false hn, if_neg (by decide)]; omega

/-- A REST THAT FITS IS EXACT. -/
theorem rest_exact {x f R : Nat} {s : Bool} {m T : Nat} {w : Int} (hx : Ieee.double.read x = .number s m ((T : Nat) - 1074)) (hT : T ≤ 1074) (hf : Is f w) (hR : R < 9007199254740992)
    (h : Ieee.signed s m T - w = (R : Int) * (2 : Int) ^ T) : ∃ r, floatBits .sub .f64 x f = some r ∧ Is r ((R : Int) * (2 : Int) ^ T) := by
  obtain ⟨t, n, U, hf, rfl⟩ := hf
  obtain ⟨neg, mag, h1, h2⟩ := sub_exact hx hf
  rw [h] at h2
  have e : (R : Int) * (2 : Int) ^ T = ((R * 2 ^ (T - min T U) : Nat) : Int) * (2 : Int) ^ (min T U) := by
    rw [Int.natCast_mul, Int.natCast_pow, Int.mul_assoc, show ((2 : Nat) : Int) = 2 from rfl, ← pow_add]; congr 2; omega
  have hm : mag = R * 2 ^ (T - min T U) := by
    rw [e, signed_mul] at h2
    have := Int.eq_of_mul_eq_mul_right (Int.ne_of_gt (pow_pos _)) h2
    generalize R * 2 ^ (T - min T U) = z at *
    cases neg <;> simp only [Bool.false_eq_true, if_false, if_true] at this <;> omega
  refine ⟨_, h1, ?_⟩
  have := is_nearest neg R (T - min T U) (min T U) hR (by omega)
  rw [← hm, h2] at this
  exact this

theorem half64 : Ieee.double.read 4602678819172646912 = .number false 4503599627370496 ((1021 : Nat) - 1074) := by decide
theorem max64' : Ieee.double.read 4831355200913801216 = .number false 8000000000000000 ((1071 : Nat) - 1074) := by decide
theorem min64' : Ieee.double.read 14054727237768577024 = .number true 8000000000000000 ((1071 : Nat) - 1074) := by decide
end Go.Proofs.Ytbgacfjocjcffaa.Na
