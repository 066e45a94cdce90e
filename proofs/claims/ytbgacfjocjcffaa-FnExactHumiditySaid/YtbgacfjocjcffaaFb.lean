/-
  Bounds: a product and a sum of float64 numbers that are not great is a number that is not great (so no infinity); and Vapour gives a number or a NaN, never an infinity.
  Conditions: none.
-/
import Derived.Test.YtbgacfjocjcffaaFd
namespace Go.Proofs.Ytbgacfjocjcffaa.Fb
open Go Go.Proofs.Ytbgacfjocjcffaa.Fk Go.Proofs.Ytbgacfjocjcffaa.Fv Go.Proofs.Ytbgacfjocjcffaa.Fd

def small (T x : Nat) : Prop := x % 9223372036854775808 < T * 4503599627370496 + 4611686018427387904

theorem cut_le (neg : Bool) (n drop K : Nat) (h : n < 2 ^ (K + drop)) : Ieee.Toward.even.cut neg n drop ≤ 2 ^ K := by
  unfold Ieee.Toward.cut
  dsimp only
  have hb : ∀ b : Bool, b.toNat ≤ 1 := by decide
  have hlow : n / (1 <<< min drop (n.log2 + 2)) < 2 ^ K := by
    rw [Nat.one_shiftLeft]
    by_cases hd : drop ≤ n.log2 + 2
    · rw [Nat.min_eq_left hd]
      refine Nat.div_lt_of_lt_mul ?_
      rw [← Nat.pow_add, Nat.add_comm drop K]
      exact h
    · rw [Nat.min_eq_right (by omega)]
      have h1 : n < 2 ^ (n.log2 + 1) := Nat.lt_log2_self
      have h2 : 2 ^ (n.log2 + 1) ≤ 2 ^ (n.log2 + 2) := Nat.pow_le_pow_right (by omega) (by omega)
      rw [Nat.div_eq_of_lt (by omega)]
      exact Nat.two_pow_pos K
  exact Nat.le_trans (Nat.add_le_add_left (hb _) _) hlow

theorem near_le (neg : Bool) (mag : Nat) (place : Int) (T : Nat) (h : (mag.log2 : Int) + place ≤ T) : Ieee.double.nearest neg mag place % 9223372036854775808 ≤ T * 4503599627370496 + 4611686018427387904 := by
  have hword : ∀ k, k ≤ 9218868437227405312 → Ieee.double.word neg k % 9223372036854775808 = k := fun k hk => by
    unfold Ieee.Format.word
    rw [signWeight64]
    cases neg
    · simp only [Bool.false_eq_true, if_false]; omega
    · simp only [if_true]; omega
  unfold Ieee.Format.nearest
  split
  · rw [hword 0 (by omega)]; omega
  · dsimp only
    rw [hword _ (by rw [← infRung64]; exact Nat.min_le_right _ _)]
    refine Nat.le_trans (Nat.min_le_left _ _) ?_
    rw [binade64, least64, show ((Ieee.double.fractionBits : Nat) : Int) = 52 from rfl]
    generalize hl : max (place + (mag.log2 : Int) - 52) (-1074) = last
    have hk : Ieee.Toward.even.cut neg (mag <<< (place - last).toNat) (last - place).toNat ≤ 2 ^ 53 := by
      refine cut_le _ _ _ _ ?_
      rw [Nat.shiftLeft_eq]
      have h1 : mag < 2 ^ (mag.log2 + 1) := Nat.lt_log2_self
      have h2 : mag * 2 ^ (place - last).toNat < 2 ^ (mag.log2 + 1) * 2 ^ (place - last).toNat := Nat.mul_lt_mul_of_pos_right h1 (Nat.two_pow_pos _)
      rw [← Nat.pow_add] at h2
      refine Nat.lt_of_lt_of_le h2 (Nat.pow_le_pow_right (by omega) ?_)
      omega
    have h53 : (2 : Nat) ^ 53 = 9007199254740992 := by decide
    rw [h53] at hk
    have hll : (last - -1074).toNat ≤ T + 1022 := by omega
    omega

theorem small_number {T x : Nat} (hT : T ≤ 1022) (h : small T x) : ∃ s m i, Ieee.double.read x = .number s m i ∧ i + 51 ≤ T ∧ -1074 ≤ i ∧ m < 9007199254740992 := by
  unfold small at h
  have hk : kn x = true := decide_eq_true (by omega)
  obtain ⟨s, m, i, hx⟩ := kn_number hk
  obtain ⟨_, hr, h1, h2, h3, _⟩ := read_number hx
  exact ⟨s, m, i, hx, by omega, h1, h3⟩
theorem small_kn {T x : Nat} (hT : T ≤ 1022) (h : small T x) : kn x = true := decide_eq_true (by unfold small at h; omega)
theorem small_mono {T U x : Nat} (h : small T x) (hT : T ≤ U) : small U x := Nat.lt_of_lt_of_le h (Nat.add_le_add_right (Nat.mul_le_mul_right _ hT) _)
theorem log_le {n k : Nat} (h : n < 2 ^ (k + 1)) : n.log2 ≤ k := by
  by_cases h0 : n = 0
  · subst h0; simp
  · have := (Nat.log2_lt h0).2 h
    omega

theorem mul_small {T U x y : Nat} (hT : T ≤ 1022) (hU : U ≤ 1022) (hx : small T x) (hy : small U y) : ∃ r, fop .mul (some x) (some y) = some r ∧ small (T + U + 4) r := by
  obtain ⟨s, m, i, ex, i1, i0, m1⟩ := small_number hT hx
  obtain ⟨t, n, j, ey, j1, j0, n1⟩ := small_number hU hy
  refine ⟨_, by simp only [fop, Option.bind_some, floatBits, fmt64, Ieee.Format.mul, ex, ey, Ieee.Datum.product, Option.map_some]; rfl, ?_⟩
  have hl : (m * n).log2 ≤ 105 := log_le (by
    have : m * n < 9007199254740992 * 9007199254740992 := Nat.mul_lt_mul'' m1 n1
    exact Nat.lt_of_lt_of_le this (by decide))
  have := near_le (s ^^ t) (m * n) (i + j) (T + U + 3) (by omega)
  unfold small
  refine Nat.lt_of_le_of_lt this ?_
  omega
theorem signed_abs (s : Bool) (m k : Nat) : (Ieee.signed s m k).natAbs = m * 2 ^ k := by
  unfold Ieee.signed
  rw [Nat.shiftLeft_eq]
  have h : ((m * 2 ^ k : Nat) : Int).natAbs = m * 2 ^ k := Int.natAbs_natCast _
  cases s
  · exact h
  · exact (Int.natAbs_neg _).trans h
theorem add_small {T x y : Nat} (hT : T ≤ 1022) (hx : small T x) (hy : small T y) : ∃ r, fop .add (some x) (some y) = some r ∧ small (T + 3) r := by
  obtain ⟨s, m, i, ex, i1, i0, m1⟩ := small_number hT hx
  obtain ⟨t, n, j, ey, j1, j0, n1⟩ := small_number hT hy
  refine ⟨_, by simp only [fop, Option.bind_some, floatBits, fmt64, Ieee.Format.add, ex, ey, Ieee.Datum.sum, Option.map_some]; rfl, ?_⟩
  generalize htot : Ieee.signed s m (i - min i j).toNat + Ieee.signed t n (j - min i j).toNat = total
  have hle : total.natAbs < 2 ^ (((T : Int) + 2 - min i j).toNat + 1) := by
    have h1 := Int.natAbs_add_le (Ieee.signed s m (i - min i j).toNat) (Ieee.signed t n (j - min i j).toNat)
    rw [htot, signed_abs, signed_abs] at h1
    have p1 : m * 2 ^ (i - min i j).toNat < 2 ^ (((T : Int) + 2 - min i j).toNat) := by
      have := Nat.mul_lt_mul_of_pos_right m1 (Nat.two_pow_pos (i - min i j).toNat)
      rw [show (9007199254740992 : Nat) = 2 ^ 53 by decide, ← Nat.pow_add] at this
      exact Nat.lt_of_lt_of_le this (Nat.pow_le_pow_right (by omega) (by omega))
    have p2 : n * 2 ^ (j - min i j).toNat < 2 ^ (((T : Int) + 2 - min i j).toNat) := by
      have := Nat.mul_lt_mul_of_pos_right n1 (Nat.two_pow_pos (j - min i j).toNat)
      rw [show (9007199254740992 : Nat) = 2 ^ 53 by decide, ← Nat.pow_add] at this
      exact Nat.lt_of_lt_of_le this (Nat.pow_le_pow_right (by omega) (by omega))
    rw [Nat.pow_succ]
    omega
  have hl := log_le hle
  have := near_le (if total = 0 then s && t else decide (total < 0)) total.natAbs (min i j) (T + 2) (by omega)
  unfold small
  refine Nat.lt_of_le_of_lt this ?_
  omega

def smallO (T : Nat) (c : Option Nat) : Prop := ∃ x, c = some x ∧ small T x
theorem smallO_mono {T U : Nat} {c : Option Nat} (h : smallO T c) (hT : T ≤ U) : smallO U c := by
  obtain ⟨x, rfl, hx⟩ := h; exact ⟨x, rfl, small_mono hx hT⟩
theorem mul_O {T U V : Nat} {c d : Option Nat} (hc : smallO T c) (hd : smallO U d) (hT : T ≤ 1022) (hU : U ≤ 1022) (hV : T + U + 4 ≤ V) : smallO V (fop .mul c d) := by
  obtain ⟨x, rfl, hx⟩ := hc
  obtain ⟨y, rfl, hy⟩ := hd
  obtain ⟨r, hr, hs⟩ := mul_small hT hU hx hy
  exact ⟨r, hr, small_mono hs hV⟩
theorem add_O {T U V : Nat} {c d : Option Nat} (hc : smallO T c) (hd : smallO U d) (hU : U ≤ 1022) (hTU : T ≤ U) (hV : U + 3 ≤ V) : smallO V (fop .add c d) := by
  obtain ⟨x, rfl, hx⟩ := hc
  obtain ⟨y, rfl, hy⟩ := hd
  obtain ⟨r, hr, hs⟩ := add_small hU (small_mono hx hTU) hy
  exact ⟨r, hr, small_mono hs hV⟩
theorem coef_small : ∀ k, k < 6 → small 5 (coef.getD k 0) := by
  intro k hk
  unfold small
  rcases (by omega : k = 0 ∨ k = 1 ∨ k = 2 ∨ k = 3 ∨ k = 4 ∨ k = 5) with rfl | rfl | rfl | rfl | rfl | rfl <;> decide
theorem vp_small {t : Option Nat} (ht : smallO 5 t) : ∀ k, k ≤ 6 → smallO (5 + 12 * k) (vp t k)
  | 0, _ => ⟨_, rfl, by unfold small; decide⟩
  | k + 1, hk => add_O (U := 5 + 12 * k + 9) ⟨_, rfl, coef_small k (by omega)⟩ (mul_O ht (vp_small ht k (by omega)) (by omega) (by omega) (by omega)) (by omega) (by omega) (by omega)

theorem fifty : Ieee.double.read 4632233691727265792 = .number false 7036874417766400 (-47) := by decide
theorem mfifty : Ieee.double.read 13855605728582041600 = .number true 7036874417766400 (-47) := by decide
theorem place_le {m : Nat} {i : Int} (h : m * 2 ^ (i - min i (-47)).toNat ≤ 7036874417766400 * 2 ^ (-47 - min i (-47)).toNat) (hm : -1074 < i → 4503599627370496 ≤ m) : i ≤ -47 := by
  by_cases hi : i ≤ -47
  · exact hi
  · exfalso
    have h1 := hm (by omega)
    rw [show min i (-47) = -47 by omega, show (-47 - -47 : Int).toNat = 0 by rfl] at h
    obtain ⟨d, hd⟩ : ∃ d, (i - -47).toNat = d + 1 := ⟨(i - -47).toNat - 1, by omega⟩
    rw [hd, Nat.pow_succ] at h
    have h2 : 1 ≤ 2 ^ d := Nat.one_le_two_pow
    have h3 : 4503599627370496 * 1 ≤ m * 2 ^ d := Nat.mul_le_mul h1 h2
    rw [← Nat.mul_assoc] at h
    omega
theorem inr_small {a : Nat} (h : inr a = true) : smallO 5 (can a) := by
  unfold inr at h
  simp only [Bool.and_eq_true, Bool.or_eq_true, beq_iff_eq] at h
  obtain ⟨h1, h2⟩ := h
  rw [fmt64] at h1 h2
  have hn : nan a = false := by
    unfold nan
    cases hr : Ieee.double.read a with
    | number s m i => rfl
    | infinity s => rfl
    | nan s t => simp [Ieee.Format.order, hr, Ieee.Datum.order] at h1
  refine ⟨a, can_real hn, ?_⟩
  rcases nan_read hn with ⟨s, m, i, hr⟩ | ⟨s, hr⟩
  · obtain ⟨_, hrung, _, _, m1, hm⟩ := read_number hr
    have hi : i ≤ -47 := by
      cases s with
      | false =>
        simp only [Ieee.Format.order, hr, fifty, Ieee.Datum.order, Option.some.injEq, cmp_lt, cmp_eq, Ieee.signed, Bool.false_eq_true, if_false, Nat.shiftLeft_eq] at h2
        exact place_le (by omega) hm
      | true =>
        simp only [Ieee.Format.order, hr, mfifty, Ieee.Datum.order, Option.some.injEq, cmp_gt, cmp_eq, Ieee.signed, if_true, Nat.shiftLeft_eq] at h1
        exact place_le (by omega) hm
    show a % 9223372036854775808 < 5 * 4503599627370496 + 4611686018427387904
    omega
  · exfalso
    cases s with
    | false => simp [Ieee.Format.order, hr, fifty, Ieee.Datum.order] at h2
    | true => simp [Ieee.Format.order, hr, mfifty, Ieee.Datum.order] at h1
theorem vap_kn (a : Nat) : knO (vap a) = (vap a).isSome := by
  unfold vap
  cases h : inr a with
  | false => rfl
  | true =>
    obtain ⟨x, hx, hs⟩ := vp_small (inr_small h) 6 (by omega)
    rw [if_pos rfl, hx]
    exact small_kn (by omega) hs
end Go.Proofs.Ytbgacfjocjcffaa.Fb
