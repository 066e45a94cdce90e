/-
  Contracts of Nearest (both) and of what they reach, each for any bits; and of the law of Nearest.
  Conditions: the float's bits lie under 2^64.
-/
import Derived.Test.YtbgacfjocjcffaaFc
import Derived.Test.YtbgacfjocjcffaaNb
namespace Go.Proofs.Ytbgacfjocjcffaa.Nc
open Go Go.RowKit Go.Proofs.Ytbgacfjocjcffaa.Fk Go.Proofs.Ytbgacfjocjcffaa.Qs Go.Proofs.Ytbgacfjocjcffaa.Fw Go.Proofs.Ytbgacfjocjcffaa.Fc
open Go.Proofs.Ytbgacfjocjcffaa.Na Go.Proofs.Ytbgacfjocjcffaa.Nb

def okB (x : Nat) : Bool := kn x && !(FloatKind.f64.format.order x 14054727237768577024 == some .lt) && !(FloatKind.f64.format.order x 4831355200913801216 == some .gt)

theorem kn_is {x : Nat} (h : kn x = true) : ∃ s m T, Ieee.double.read x = .number s m ((T : Nat) - 1074) ∧ m < 9007199254740992 ∧ (0 < T → 4503599627370496 ≤ m) := by
  obtain ⟨s, m, i, hx⟩ := kn_number h
  obtain ⟨_, _, h1, h2, h3, h4⟩ := read_number hx
  refine ⟨s, m, (i + 1074).toNat, ?_, h3, fun h => h4 (by omega)⟩
  rw [hx]; congr 1; omega
theorem lo_some {x : Nat} (h : kn x = true) : ∃ o, FloatKind.f64.format.order x 14054727237768577024 = some o := by
  obtain ⟨s, m, T, hx, _⟩ := kn_is h
  exact ⟨_, (is_number hx).order is_min⟩
theorem hi_some {x : Nat} (h : kn x = true) : ∃ o, FloatKind.f64.format.order x 4831355200913801216 = some o := by
  obtain ⟨s, m, T, hx, _⟩ := kn_is h
  exact ⟨_, (is_number hx).order is_max⟩

set_option maxHeartbeats 1000000 in
theorem whole_any (x : Nat) (w : World) : Calls Try.prog 73 #[.float .f64 x] w fun e w' => e = .returned (.bool (okB x)) ∧ ∃ n, w' = w.drewN n := by
  cases h1 : kn x
  · have e : okB x = false := by unfold okB; rw [h1]; rfl
    rw [e]
    go_enter Try.func73, Try.ntmps73
    go_wp2_with (go_at_call 20; refine (specKnown_any _ _).mono ?_; rintro e w' ⟨rfl, n, rfl⟩; try rw [h1])
    go_ret
    exact ⟨rfl, _, rfl⟩
  · obtain ⟨o, ho⟩ := lo_some h1
    obtain ⟨p, hp⟩ := hi_some h1
    have e : okB x = (!(some o == some .lt) && !(some p == some .gt)) := by unfold okB; rw [h1, ho, hp]; rfl
    have g1 : (FloatKind.f64.format.order x 14054727237768577024 == some .gt) = (some o == some .gt) := by rw [ho]
    have g2 : (FloatKind.f64.format.order x 14054727237768577024 == some .eq) = (some o == some .eq) := by rw [ho]
    have g3 : (FloatKind.f64.format.order x 4831355200913801216 == some .lt) = (some p == some .lt) := by rw [hp]
    have g4 : (FloatKind.f64.format.order x 4831355200913801216 == some .eq) = (some p == some .eq) := by rw [hp]
    cases o
    · simp only [show (some Ordering.lt == some Ordering.gt) = false from rfl, show (some Ordering.lt == some Ordering.eq) = false from rfl] at g1 g2
      clear ho hp
      go_enter Try.func73, Try.ntmps73
      go_wp2_with (go_at_call 20; refine (specKnown_any _ _).mono ?_; rintro e w' ⟨rfl, n, rfl⟩; try rw [h1])
      go_ret
      exact ⟨ret_bool (by rw [e]; rfl), _, rfl⟩
    · simp only [show (some Ordering.eq == some Ordering.gt) = false from rfl, show (some Ordering.eq == some Ordering.eq) = true from rfl] at g1 g2
      clear ho hp
      go_enter Try.func73, Try.ntmps73
      go_wp2_with (go_at_call 20; refine (specKnown_any _ _).mono ?_; rintro e w' ⟨rfl, n, rfl⟩; try rw [h1])
      go_ret
      have hb : (p == .lt || p == .eq) = okB x := by rw [e]; cases p <;> rfl
      exact ⟨ret_bool hb, _, rfl⟩
    · simp only [show (some Ordering.gt == some Ordering.gt) = true from rfl, show (some Ordering.gt == some Ordering.eq) = false from rfl] at g1 g2
      clear ho hp
      go_enter Try.func73, Try.ntmps73
      go_wp2_with (go_at_call 20; refine (specKnown_any _ _).mono ?_; rintro e w' ⟨rfl, n, rfl⟩; try rw [h1])
      go_ret
      have hb : (p == .lt || p == .eq) = okB x := by rw [e]; cases p <;> rfl
      exact ⟨ret_bool hb, _, rfl⟩

section
attribute [local irreducible] FloatKind.decode FloatKind.encode Ieee.Datum.integral
theorem even_key {x : Nat} {s : Bool} {m : Nat} {i : Int} (hd : FloatKind.f64.decode x = .number s m i) : Extern.MathFloor.toIntegral "math.RoundToEven" .even #[.float .f64 x] = pure (.float .f64 (FloatKind.f64.encode ((FloatKind.f64.decode x).integral .even))) := by
  conv => lhs; whnf
  rw [hd]
end
theorem even_run (x : Nat) (hk : kn x = true) (w : World) : (callFunc 74 #[.float .f64 x]).run Try.prog w = .ok (.value (.float .f64 (Ieee.double.write ((Ieee.double.read x).integral .even)))) w := by
  obtain ⟨s, m, T, hx, _⟩ := kn_is hk
  rw [run_callFunc_extern Try.func74 (by kernel_rfl) (by kernel_rfl) (by kernel_rfl) (e := Extern.MathFloor.toIntegral "math.RoundToEven" .even) (by kernel_rfl)]
  rw [even_key (x := x) hx]
  rfl

set_option maxHeartbeats 1000000 in
theorem implNo (x : Nat) (hx : x < 18446744073709551616) (h : okB x = false) (w : World) :
    Calls Try.prog 50 #[.float .f64 x] w fun e w' => e = .returned (.tuple #[.int .i64 0, .bool false]) ∧ w = w' := by
  cases h1 : kn x
  · go_enter Try.func50, Try.ntmps50
    go_wp2_with (go_at_call 21; refine (implKnown_any _ hx _).mono ?_; rintro e w' ⟨rfl, rfl⟩; try rw [h1])
    go_ret2
    exact ⟨rfl, rfl⟩
  · cases g1 : (FloatKind.f64.format.order x 14054727237768577024 == some .lt)
    · cases g2 : (FloatKind.f64.format.order x 4831355200913801216 == some .gt)
      · exfalso; unfold okB at h; rw [h1, g1, g2] at h; cases h
      · go_enter Try.func50, Try.ntmps50
        go_wp2_with (go_at_call 21; refine (implKnown_any _ hx _).mono ?_; rintro e w' ⟨rfl, rfl⟩; try rw [h1])
        go_ret2
        exact ⟨rfl, rfl⟩
    · go_enter Try.func50, Try.ntmps50
      go_wp2_with (go_at_call 21; refine (implKnown_any _ hx _).mono ?_; rintro e w' ⟨rfl, rfl⟩; try rw [h1])
      go_ret2
      exact ⟨rfl, rfl⟩

theorem ok_parts {x : Nat} (h : okB x = true) : kn x = true ∧ (FloatKind.f64.format.order x 14054727237768577024 == some .lt) = false ∧ (FloatKind.f64.format.order x 4831355200913801216 == some .gt) = false := by
  unfold okB at h
  simpa [and_assoc] using h

set_option maxHeartbeats 1000000 in
theorem implYes (x : Nat) (hx : x < 18446744073709551616) (h : okB x = true) (N : Int) (hc : floatToIntVal .f64 (Ieee.double.write ((Ieee.double.read x).integral .even)) .i64 = some N) (w : World) :
    Calls Try.prog 50 #[.float .f64 x] w fun e w' => e = .returned (.tuple #[.int .i64 N, .bool true]) ∧ w = w' := by
  obtain ⟨h1, g1, g2⟩ := ok_parts h
  have hr := fun w => even_run x h1 w
  have hcv := fun w => run_convert_float_int (P := Try.prog) w 22 2 .f64 .i64 _ N (by kernel_rfl) (by kernel_rfl) hc
  go_enter Try.func50, Try.ntmps50
  go_wp2_with (go_at_call 21; refine (implKnown_any _ hx _).mono ?_; rintro e w' ⟨rfl, rfl⟩; try rw [h1])
  go_ret2
  exact ⟨rfl, rfl⟩

set_option maxHeartbeats 1000000 in
theorem specNo (x : Nat) (h : okB x = false) (w : World) :
    Calls Try.prog 49 #[.float .f64 x] w fun e w' => e = .returned (.tuple #[.int .i64 0, .bool false]) ∧ ∃ n, w' = w.drewN n := by
  go_enter Try.func49, Try.ntmps49
  go_wp2_with (go_at_call 73; refine (whole_any _ _).mono ?_; rintro e w' ⟨rfl, n, rfl⟩; rw [h])
  go_ret2
  exact ⟨rfl, _, rfl⟩

theorem rest_is {x f r r0 : Nat} (h : floatBits .sub .f64 x f = some r0) (hr : can r = fop .sub (can x) (can f)) : r = r0 := by
  rw [← bits_can, h] at hr
  exact (can_some hr).1

theorem fin_a {n : Int} {r : Nat} (g1 : (FloatKind.f64.format.order r 4602678819172646912 == some .gt) = true) : n + 1 = fin n r := by
  unfold fin; rw [show (Ieee.double.order r 4602678819172646912 == some .gt) = true from g1]; rfl
theorem fin_b {n : Int} {r : Nat} (g1 : (FloatKind.f64.format.order r 4602678819172646912 == some .gt) = false) (g2 : (FloatKind.f64.format.order r 4602678819172646912 == some .eq) = false) : n = fin n r := by
  unfold fin; rw [show (Ieee.double.order r 4602678819172646912 == some .gt) = false from g1, show (Ieee.double.order r 4602678819172646912 == some .eq) = false from g2]; rfl
theorem fin_c {n : Int} {r : Nat} (g1 : (FloatKind.f64.format.order r 4602678819172646912 == some .gt) = false) (g2 : (FloatKind.f64.format.order r 4602678819172646912 == some .eq) = true) (g3 : odd n = true) : n + 1 = fin n r := by
  unfold fin; rw [show (Ieee.double.order r 4602678819172646912 == some .gt) = false from g1, show (Ieee.double.order r 4602678819172646912 == some .eq) = true from g2, g3]; rfl
theorem fin_d {n : Int} {r : Nat} (g1 : (FloatKind.f64.format.order r 4602678819172646912 == some .gt) = false) (g2 : (FloatKind.f64.format.order r 4602678819172646912 == some .eq) = true) (g3 : odd n = false) : n = fin n r := by
  unfold fin; rw [show (Ieee.double.order r 4602678819172646912 == some .gt) = false from g1, show (Ieee.double.order r 4602678819172646912 == some .eq) = true from g2, g3]; rfl
theorem ret_near {a b : Int} (h : a = b) : Ending.returned (.tuple #[.int .i64 a, .bool true]) = Ending.returned (.tuple #[.int .i64 b, .bool true]) := by rw [h]

set_option maxHeartbeats 1000000 in
theorem specUp (x : Nat) (h : okB x = true) (n0 : Int) (r0 : Nat) (hb : n0.natAbs ≤ 1000000000000000) (hc : floatToIntVal .f64 x .i64 = some n0)
    (hu : (FloatKind.f64.format.order (floatOfInt .f64 n0) x == some .gt) = true) (hs : floatBits .sub .f64 x (floatOfInt .f64 (n0 - 1)) = some r0) (w : World) :
    Calls Try.prog 49 #[.float .f64 x] w fun e w' => e = .returned (.tuple #[.int .i64 (fin (n0 - 1) r0), .bool true]) ∧ ∃ n, w' = w.drewN n := by
  have hcv := fun w => run_convert_float_int (P := Try.prog) w 22 2 .f64 .i64 _ n0 (by kernel_rfl) (by kernel_rfl) hc
  cases g1 : (FloatKind.f64.format.order r0 4602678819172646912 == some .gt)
  · cases g2 : (FloatKind.f64.format.order r0 4602678819172646912 == some .eq)
    · clear hc
      go_enter Try.func49, Try.ntmps49
      go_wp2_with (first | (go_at_call 73; refine (whole_any _ _).mono ?_; rintro e w' ⟨rfl, n, rfl⟩; rw [h]) | (refine wpList_fop rfl rfl (by decide) rfl rfl ?_; intro r n hr hl; obtain rfl := rest_is hs hr; clear hr hl))
      go_ret2
      exact ⟨ret_near (fin_b g1 g2), _, rfl⟩
    · cases g3 : odd (n0 - 1)
      · clear hc
        have g4 : ((n0 - 1).tmod 2 != 0) = false := g3
        go_enter Try.func49, Try.ntmps49
        go_wp2_with (first | (go_at_call 73; refine (whole_any _ _).mono ?_; rintro e w' ⟨rfl, n, rfl⟩; rw [h]) | (refine wpList_fop rfl rfl (by decide) rfl rfl ?_; intro r n hr hl; obtain rfl := rest_is hs hr; clear hr hl))
        go_ret2
        exact ⟨ret_near (fin_d g1 g2 g3), _, rfl⟩
      · clear hc
        have g4 : ((n0 - 1).tmod 2 != 0) = true := g3
        go_enter Try.func49, Try.ntmps49
        go_wp2_with (first | (go_at_call 73; refine (whole_any _ _).mono ?_; rintro e w' ⟨rfl, n, rfl⟩; rw [h]) | (refine wpList_fop rfl rfl (by decide) rfl rfl ?_; intro r n hr hl; obtain rfl := rest_is hs hr; clear hr hl))
        go_ret2
        exact ⟨ret_near ((by omega : n0 = n0 - 1 + 1).trans (fin_c g1 g2 g3)), _, rfl⟩
  · clear hc
    go_enter Try.func49, Try.ntmps49
    go_wp2_with (first | (go_at_call 73; refine (whole_any _ _).mono ?_; rintro e w' ⟨rfl, n, rfl⟩; rw [h]) | (refine wpList_fop rfl rfl (by decide) rfl rfl ?_; intro r n hr hl; obtain rfl := rest_is hs hr; clear hr hl))
    go_ret2
    exact ⟨ret_near ((by omega : n0 = n0 - 1 + 1).trans (fin_a g1)), _, rfl⟩
set_option maxHeartbeats 1000000 in
theorem specAs (x : Nat) (h : okB x = true) (n0 : Int) (r0 : Nat) (hb : n0.natAbs ≤ 1000000000000000) (hc : floatToIntVal .f64 x .i64 = some n0)
    (hu : (FloatKind.f64.format.order (floatOfInt .f64 n0) x == some .gt) = false) (hs : floatBits .sub .f64 x (floatOfInt .f64 n0) = some r0) (w : World) :
    Calls Try.prog 49 #[.float .f64 x] w fun e w' => e = .returned (.tuple #[.int .i64 (fin n0 r0), .bool true]) ∧ ∃ n, w' = w.drewN n := by
  have hcv := fun w => run_convert_float_int (P := Try.prog) w 22 2 .f64 .i64 _ n0 (by kernel_rfl) (by kernel_rfl) hc
  cases g1 : (FloatKind.f64.format.order r0 4602678819172646912 == some .gt)
  · cases g2 : (FloatKind.f64.format.order r0 4602678819172646912 == some .eq)
    · clear hc
      go_enter Try.func49, Try.ntmps49
      go_wp2_with (first | (go_at_call 73; refine (whole_any _ _).mono ?_; rintro e w' ⟨rfl, n, rfl⟩; rw [h]) | (refine wpList_fop rfl rfl (by decide) rfl rfl ?_; intro r n hr hl; obtain rfl := rest_is hs hr; clear hr hl))
      go_ret2
      exact ⟨ret_near (fin_b g1 g2), _, rfl⟩
    · cases g3 : odd n0
      · clear hc
        have g4 : (n0.tmod 2 != 0) = false := g3
        go_enter Try.func49, Try.ntmps49
        go_wp2_with (first | (go_at_call 73; refine (whole_any _ _).mono ?_; rintro e w' ⟨rfl, n, rfl⟩; rw [h]) | (refine wpList_fop rfl rfl (by decide) rfl rfl ?_; intro r n hr hl; obtain rfl := rest_is hs hr; clear hr hl))
        go_ret2
        exact ⟨ret_near (fin_d g1 g2 g3), _, rfl⟩
      · clear hc
        have g4 : (n0.tmod 2 != 0) = true := g3
        go_enter Try.func49, Try.ntmps49
        go_wp2_with (first | (go_at_call 73; refine (whole_any _ _).mono ?_; rintro e w' ⟨rfl, n, rfl⟩; rw [h]) | (refine wpList_fop rfl rfl (by decide) rfl rfl ?_; intro r n hr hl; obtain rfl := rest_is hs hr; clear hr hl))
        go_ret2
        exact ⟨ret_near (fin_c g1 g2 g3), _, rfl⟩
  · clear hc
    go_enter Try.func49, Try.ntmps49
    go_wp2_with (first | (go_at_call 73; refine (whole_any _ _).mono ?_; rintro e w' ⟨rfl, n, rfl⟩; rw [h]) | (refine wpList_fop rfl rfl (by decide) rfl rfl ?_; intro r n hr hl; obtain rfl := rest_is hs hr; clear hr hl))
    go_ret2
    exact ⟨ret_near (fin_a g1), _, rfl⟩

theorem conv_of {x : Nat} {n : Int} (h : (Ieee.double.read x).toInt .zero = some n) (hb : n.natAbs ≤ 1000000000000001) : floatToIntVal .f64 x .i64 = some n := by
  unfold floatToIntVal
  have h' : (FloatKind.f64.decode x).toInt .zero = some n := h
  rw [h']
  dsimp only
  have h1 : IntKind.i64.min = -9223372036854775808 := by decide
  have h2 : IntKind.i64.max = 9223372036854775807 := by decide
  rw [if_pos (by rw [h1, h2]; omega)]

/-- WHERE THE GUARD LETS IT THROUGH: both give the same whole number. -/
theorem both {x : Nat} (h : okB x = true) : ∃ N, floatToIntVal .f64 (Ieee.double.write ((Ieee.double.read x).integral .even)) .i64 = some N ∧
    ∀ w, Calls Try.prog 49 #[.float .f64 x] w fun e w' => e = .returned (.tuple #[.int .i64 N, .bool true]) ∧ ∃ n, w' = w.drewN n := by
  obtain ⟨h1, g1, g2⟩ := ok_parts h
  obtain ⟨s, m, T, hx, hm, hp⟩ := kn_is h1
  obtain ⟨hT, hq⟩ := guard hx hp g1 g2
  have hQ : Q m T ≤ 1000000000000001 := by
    unfold Q
    have : (up m (1074 - T)).toNat ≤ 1 := Bool.toNat_le _
    omega
  refine ⟨_, conv_of (even_read hx hT hq) (sgn_abs hQ), fun w => ?_⟩
  obtain ⟨r, hs, hf⟩ := mend hx hm hT hq
  have hu := up_test hx hT hq
  have hb := sgn_abs (s := s) hq
  have hc := conv_of (trunc hx hT) (by omega)
  by_cases hc' : (s && m % 2 ^ (1074 - T) != 0) = true
  · rw [if_pos hc'] at hs hf
    rw [hc'] at hu
    rw [← hf]
    exact specUp x h _ r hb hc hu hs w
  · rw [if_neg hc'] at hs hf
    rw [Bool.not_eq_true] at hc'
    rw [hc'] at hu
    rw [← hf]
    exact specAs x h _ r hb hc hu hs w

set_option maxHeartbeats 1000000 in
theorem lawNearest (x : Nat) (hx : x < 18446744073709551616) (w : World) : Calls Try.prog 14 #[.float .f64 x] w fun e w' => e = .returned (.bool true) ∧ Below w.heap.size w w' := by
  cases h : okB x
  · go_enter Try.func14, Try.ntmps14
    go_wp2_with (first | (go_at_call 49; refine (specNo _ h _).mono ?_; rintro e w' ⟨rfl, n, rfl⟩) | (go_at_call 50; refine (implNo _ hx h _).mono ?_; rintro e w' ⟨rfl, rfl⟩))
    go_ret
    exact ⟨rfl, below_draws _ _⟩
  · obtain ⟨N, hc, hs⟩ := both h
    go_enter Try.func14, Try.ntmps14
    go_wp2_with (first | (go_at_call 49; refine (hs _).mono ?_; rintro e w' ⟨rfl, n, rfl⟩) | (go_at_call 50; refine (implYes _ hx h N hc _).mono ?_; rintro e w' ⟨rfl, rfl⟩))
    go_ret
    exact ⟨rfl, below_draws _ _⟩
end Go.Proofs.Ytbgacfjocjcffaa.Nc
