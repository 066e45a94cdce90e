/-
  Contracts of the small float functions (Same, Known and what they reach), each for any bits; and of the laws of Same and Known.
  Conditions: a float's bits lie under 2^64 where the function takes them apart.
-/
import Derived.Test.YtbgacfjocjcffaaChecked
import Derived.Test.YtbgacfjocjcffaaFw
import Derived.Test.YtbgacfjocjcffaaFt
import Derived.WalkKit
import Derived.Laws.Cover2
import Derived.KernelRfl
import Derived.Deep.QuietTactic
import Derived.BigQuiet
import Derived.Lib.Hide
import Derived.Laws.BitsAllLaws
namespace Go.Proofs.Ytbgacfjocjcffaa.Fc
open Go Go.RowKit Go.Proofs.Ytbgacfjocjcffaa.Fk Go.Proofs.Ytbgacfjocjcffaa.Qs Go.Proofs.Ytbgacfjocjcffaa.Fw

def sfB (a b : Option Nat) : Bool :=
  if ford a a != some .eq || ford b b != some .eq then ford a a != some .eq && ford b b != some .eq
  else if ford a (some 0) == some .eq && ford b (some 0) == some .eq then (ford (fop .quo (some 4607182418800017408) a) (some 0) == some .gt) == (ford (fop .quo (some 4607182418800017408) b) (some 0) == some .gt)
  else ford a b == some .eq

theorem sfB_self (a : Option Nat) : sfB a a = true := by
  unfold sfB
  cases h : (ford a a != some .eq) with
  | true => simp
  | false =>
    have h' : (ford a a == some .eq) = true := by simpa using h
    cases h2 : (ford a (some 0) == some .eq) <;> simp [h']

theorem ret_bool {a b : Bool} (h : a = b) : Ending.returned (.bool a) = Ending.returned (.bool b) := by rw [h]
theorem can_zero : can 0 = some 0 := by decide
theorem can_one : can 4607182418800017408 = some 4607182418800017408 := by decide

theorem sf_a {a b : Nat} (h : (FloatKind.f64.format.order a a != some .eq) = true) : sfB (can a) (can b) = (FloatKind.f64.format.order b b != some .eq) := by
  rw [order_can] at h ⊢
  unfold sfB
  simp only [h, Bool.true_or, Bool.true_and, if_true]
theorem sf_b {a b : Nat} (h : (FloatKind.f64.format.order a a != some .eq) = false) (h2 : (FloatKind.f64.format.order b b != some .eq) = true) : sfB (can a) (can b) = false := by
  rw [order_can] at h h2
  unfold sfB
  simp only [h, h2, Bool.or_true, Bool.false_and, if_true]
theorem sf_c {a b : Nat} (h : (FloatKind.f64.format.order a a != some .eq) = false) (h2 : (FloatKind.f64.format.order b b != some .eq) = false) (h3 : (FloatKind.f64.format.order a 0 == some .eq && FloatKind.f64.format.order b 0 == some .eq) = false) :
    sfB (can a) (can b) = (FloatKind.f64.format.order a b == some .eq) := by
  rw [order_can] at h h2 ⊢
  rw [order_can, order_can, can_zero] at h3
  unfold sfB
  simp only [h, h2, h3, Bool.or_false, Bool.false_eq_true, if_false]
theorem sf_d {a b ra rb : Nat} (h : (FloatKind.f64.format.order a a != some .eq) = false) (h2 : (FloatKind.f64.format.order b b != some .eq) = false) (h3 : (FloatKind.f64.format.order a 0 == some .eq) = true) (h4 : (FloatKind.f64.format.order b 0 == some .eq) = true)
    (ha : can ra = fop .quo (some 4607182418800017408) (can a)) (hb : can rb = fop .quo (some 4607182418800017408) (can b)) :
    sfB (can a) (can b) = ((FloatKind.f64.format.order ra 0 == some .gt) == (FloatKind.f64.format.order rb 0 == some .gt)) := by
  rw [order_can] at h h2
  rw [order_can, can_zero] at h3 h4
  rw [order_can ra, order_can rb, ha, hb, can_zero]
  unfold sfB
  simp only [h, h2, h3, h4, Bool.or_false, Bool.false_eq_true, if_false, Bool.and_true, if_true]

set_option maxHeartbeats 1000000 in
theorem sameFloat_any (a b : Nat) (w : World) :
    Calls Try.prog 32 #[.float .f64 a, .float .f64 b] w fun e w' => e = .returned (.bool (sfB (can a) (can b))) ∧ ∃ n, w' = w.drewN n := by
  cases h1 : (FloatKind.f64.format.order a a != some .eq) <;> cases h2 : (FloatKind.f64.format.order b b != some .eq)
  · cases h3 : (FloatKind.f64.format.order a 0 == some .eq) <;> cases h4 : (FloatKind.f64.format.order b 0 == some .eq)
    · go_enter Try.func32, Try.ntmps32
      go_wp2
      go_ret
      exact ⟨ret_bool (sf_c h1 h2 (by rw [h3, h4]; rfl)).symm, 0, rfl⟩
    · go_enter Try.func32, Try.ntmps32
      go_wp2
      go_ret
      exact ⟨ret_bool (sf_c h1 h2 (by rw [h3, h4]; rfl)).symm, 0, rfl⟩
    · go_enter Try.func32, Try.ntmps32
      go_wp2
      go_ret
      exact ⟨ret_bool (sf_c h1 h2 (by rw [h3, h4]; rfl)).symm, 0, rfl⟩
    · go_enter Try.func32, Try.ntmps32
      go_wp2_with (refine wpList_fop rfl rfl (by decide) rfl rfl ?_; intro r n hr hl; have hr' := Lib.hid hr; clear hr)
      rename_i r0 n0 hl0 hr0
      go_ret
      exact ⟨ret_bool (sf_d h1 h2 h3 h4 (by rw [hr0.out, can_one]) (by rw [hr'.out, can_one])).symm, _, rfl⟩
  · go_enter Try.func32, Try.ntmps32
    go_wp2
    go_ret
    exact ⟨ret_bool (sf_b h1 h2).symm, 0, rfl⟩
  · go_enter Try.func32, Try.ntmps32
    go_wp2
    go_ret
    exact ⟨ret_bool ((sf_a h1).trans h2).symm, 0, rfl⟩
  · go_enter Try.func32, Try.ntmps32
    go_wp2
    go_ret
    exact ⟨ret_bool ((sf_a h1).trans h2).symm, 0, rfl⟩

set_option maxHeartbeats 1000000 in
theorem specKnown_any (x : Nat) (w : World) : Calls Try.prog 20 #[.float .f64 x] w fun e w' => e = .returned (.bool (kn x)) ∧ ∃ n, w' = w.drewN n := by
  go_enter Try.func20, Try.ntmps20
  go_wp2_with (refine wpList_fop rfl rfl (by decide) rfl rfl ?_; intro r n hr hl; have hr' := Lib.hid hr; clear hr)
  go_ret
  exact ⟨ret_bool (known_spec hr'.out), _, rfl⟩

theorem missing_any (x : Nat) (w : World) : Calls Try.prog 65 #[.float .f64 x] w fun e w' => e = .returned (.bool (nan x)) ∧ w = w' := by
  go_enter Try.func65, Try.ntmps65
  go_wp2
  go_ret
  exact ⟨ret_bool (self_ne x), rfl⟩

theorem bits_run (x : Nat) (w : World) : (callFunc 66 #[.float .f64 x]).run Try.prog w = .ok (.value (.int .u64 x)) w := by
  rw [run_callFunc_extern Try.func66 (by kernel_rfl) (by kernel_rfl) (by kernel_rfl) (e := Extern.MathFloatBits.float64bits) (by kernel_rfl)]
  rfl
theorem frombits_run (n : Int) (w : World) : (callFunc 78 #[.int .u64 n]).run Try.prog w = .ok (.value (.float .f64 n.toNat)) w := by
  rw [run_callFunc_extern Try.func78 (by kernel_rfl) (by kernel_rfl) (by kernel_rfl) (e := Extern.MathFloatBits.float64frombits) (by kernel_rfl)]
  rfl
attribute [local go_sem] bits_run frombits_run

theorem andNot_sign (x : Nat) (hx : x < 18446744073709551616) : (bits BinOp.andNot IntKind.u64 (x : Int) 9223372036854775808).toNat = x % 9223372036854775808 := by
  have h := u64_andNot_nat x 9223372036854775808 hx (by omega)
  rw [show ((9223372036854775808 : Nat) : Int) = 9223372036854775808 from rfl] at h
  rw [h, Int.toNat_natCast]
  exact Nat.and_two_pow_sub_one_eq_mod x 63
theorem abs_any (x : Nat) (hx : x < 18446744073709551616) (w : World) : Calls Try.prog 76 #[.float .f64 x] w fun e w' => e = .returned (.float .f64 (x % 9223372036854775808)) ∧ w = w' := by
  go_enter Try.func76, Try.ntmps76
  go_wp2
  go_ret
  exact ⟨by rw [andNot_sign x hx]; rfl, rfl⟩

theorem isInf_any (x : Nat) (hx : x < 18446744073709551616) (w : World) : Calls Try.prog 67 #[.float .f64 x, .int .i64 0] w fun e w' => e = .returned (.bool (FloatKind.f64.format.order (x % 9223372036854775808) 9218868437227405311 == some .gt)) ∧ w = w' := by
  go_enter Try.func67, Try.ntmps67
  go_wp2_with (go_at_call 76; refine (abs_any _ hx _).mono ?_; rintro e w' ⟨rfl, rfl⟩)
  go_ret
  exact ⟨rfl, rfl⟩

theorem implKnown_any (x : Nat) (hx : x < 18446744073709551616) (w : World) : Calls Try.prog 21 #[.float .f64 x] w fun e w' => e = .returned (.bool (kn x)) ∧ w = w' := by
  cases h : nan x
  · go_enter Try.func21, Try.ntmps21
    go_wp2_with (first | (go_at_call 65; refine (missing_any _ _).mono ?_; rintro e w' ⟨rfl, rfl⟩) | (go_at_call 67; refine (isInf_any _ hx _).mono ?_; rintro e w' ⟨rfl, rfl⟩))
    go_ret
    exact ⟨ret_bool (by rw [abs_max h]; simp), rfl⟩
  · go_enter Try.func21, Try.ntmps21
    go_wp2_with (first | (go_at_call 65; refine (missing_any _ _).mono ?_; rintro e w' ⟨rfl, rfl⟩) | (go_at_call 67; refine (isInf_any _ hx _).mono ?_; rintro e w' ⟨rfl, rfl⟩))
    go_ret
    exact ⟨ret_bool (by cases hk : kn x with
      | false => rfl
      | true => rw [kn_real hk] at h; cases h), rfl⟩

theorem below_draws (w : World) (n : Nat) : Below w.heap.size w (w.drewN n) := ⟨rfl, rfl, rfl, Nat.le_refl _, fun _ _ => rfl⟩

set_option maxHeartbeats 1000000 in
theorem lawKnown (x : Nat) (hx : x < 18446744073709551616) (w : World) : Calls Try.prog 4 #[.float .f64 x] w fun e w' => e = .returned (.bool true) ∧ Below w.heap.size w w' := by
  go_enter Try.func4, Try.ntmps4
  go_wp2_with (first | (go_at_call 20; refine (specKnown_any _ _).mono ?_; rintro e w' ⟨rfl, n, rfl⟩) | (go_at_call 21; refine (implKnown_any _ hx _).mono ?_; rintro e w' ⟨rfl, rfl⟩))
  go_ret
  exact ⟨rfl, below_draws _ _⟩

theorem minus_a {x : Nat} (h1 : (FloatKind.f64.format.order x 0 == some .lt) = true) (r : Nat) : minus x r = true := by unfold minus; rw [h1]; rfl
theorem minus_b {x : Nat} (h1 : (FloatKind.f64.format.order x 0 == some .lt) = false) (h2 : (FloatKind.f64.format.order x 0 == some .eq) = false) (r : Nat) : minus x r = false := by unfold minus; rw [h1, h2]; rfl
theorem minus_c {x : Nat} (h1 : (FloatKind.f64.format.order x 0 == some .lt) = false) (h2 : (FloatKind.f64.format.order x 0 == some .eq) = true) (r : Nat) : minus x r = (FloatKind.f64.format.order r 0 == some .lt) := by unfold minus; rw [h1, h2]; rfl
theorem one_over (x : Nat) : ∃ r, can r = fop .quo (some 4607182418800017408) (can x) := by
  cases h : fop .quo (some 4607182418800017408) (can x) with
  | some r =>
    have := h
    rw [← can_one, ← bits_can] at this
    exact ⟨r, bits_real this⟩
  | none => exact ⟨9221120237041090561, by decide⟩

set_option maxHeartbeats 1000000 in
theorem l1Minus_any (x : Nat) (w : World) : Calls Try.prog 64 #[.float .f64 x] w fun e w' => ∃ r, can r = fop .quo (some 4607182418800017408) (can x) ∧ e = .returned (.bool (minus x r)) ∧ ∃ n, w' = w.drewN n := by
  cases h1 : (FloatKind.f64.format.order x 0 == some .lt)
  · cases h2 : (FloatKind.f64.format.order x 0 == some .eq)
    · obtain ⟨r, hr⟩ := one_over x
      go_enter Try.func64, Try.ntmps64
      go_wp2
      go_ret
      exact ⟨r, hr, ret_bool (minus_b h1 h2 r).symm, 0, rfl⟩
    · go_enter Try.func64, Try.ntmps64
      go_wp2_with (refine wpList_fop rfl rfl (by decide) rfl rfl ?_; intro r n hr hl; have hr' := Lib.hid hr; clear hr)
      go_ret
      exact ⟨_, (by rw [hr'.out, can_one]), ret_bool (minus_c h1 h2 _).symm, _, rfl⟩
  · obtain ⟨r, hr⟩ := one_over x
    go_enter Try.func64, Try.ntmps64
    go_wp2
    go_ret
    exact ⟨r, hr, ret_bool (minus_a h1 r).symm, 0, rfl⟩

def sb (a b : Nat) : Bool := (nan a && nan b) || ((a : Int) == (b : Int))

theorem sb_c {a b ra rb : Nat} (ha : a < 18446744073709551616) (hb : b < 18446744073709551616) (na : nan a = false) (nb : nan b = false) (ho : (FloatKind.f64.format.order a b == some .eq) = true)
    (hra : can ra = fop .quo (some 4607182418800017408) (can a)) (hrb : can rb = fop .quo (some 4607182418800017408) (can b)) : (minus a ra == minus b rb) = sb a b := by
  have := same_eq ha hb na nb hra hrb
  unfold sb
  rw [na, ← this, ho]; rfl
theorem sb_d {a b : Nat} (ha : a < 18446744073709551616) (hb : b < 18446744073709551616) (na : nan a = false) (nb : nan b = false) (ho : (FloatKind.f64.format.order a b == some .eq) = false) : false = sb a b := by
  obtain ⟨ra, hra⟩ := one_over a
  obtain ⟨rb, hrb⟩ := one_over b
  have := same_eq ha hb na nb hra hrb
  unfold sb
  rw [na, ← this, ho]; rfl
theorem sb_a {a b : Nat} (na : nan a = true) : (FloatKind.f64.format.order b b != some .eq) = sb a b := by
  rw [self_ne]
  unfold sb
  rw [na]
  cases hb : nan b with
  | true => rfl
  | false =>
    have : ((a : Int) == (b : Int)) = false := by
      simp only [beq_eq_false_iff_ne, ne_eq]
      intro h
      have h' : a = b := by omega
      subst h'
      rw [na] at hb
      cases hb
    rw [this]; rfl
theorem sb_b {a b : Nat} (na : nan a = false) (nb : nan b = true) : false = sb a b := by
  unfold sb
  rw [na]
  have : ((a : Int) == (b : Int)) = false := by
    simp only [beq_eq_false_iff_ne, ne_eq]
    intro h
    have h' : a = b := by omega
    subst h'
    rw [na] at nb
    cases nb
  rw [this]; rfl

set_option maxHeartbeats 1000000 in
theorem specSame_any (a b : Nat) (ha : a < 18446744073709551616) (hb : b < 18446744073709551616) (w : World) : Calls Try.prog 18 #[.float .f64 a, .float .f64 b] w fun e w' => e = .returned (.bool (sb a b)) ∧ ∃ n, w' = w.drewN n := by
  cases h1 : (FloatKind.f64.format.order a a != some .eq) <;> cases h2 : (FloatKind.f64.format.order b b != some .eq)
  · have na : nan a = false := (self_ne a).symm.trans h1
    have nb : nan b = false := (self_ne b).symm.trans h2
    cases h3 : (FloatKind.f64.format.order a b == some .eq)
    · go_enter Try.func18, Try.ntmps18
      go_wp2
      go_ret
      exact ⟨ret_bool (sb_d ha hb na nb h3), 0, rfl⟩
    · go_enter Try.func18, Try.ntmps18
      go_wp2_with (go_at_call 64; refine (l1Minus_any _ _).mono ?_; rintro e w' ⟨r, hr, rfl, n, rfl⟩; have hr' := Lib.hid hr; clear hr)
      rename_i r0 n0 hr0
      go_ret
      exact ⟨ret_bool (sb_c ha hb na nb h3 hr0.out hr'.out), _, rfl⟩
  · go_enter Try.func18, Try.ntmps18
    go_wp2
    go_ret
    exact ⟨ret_bool (sb_b ((self_ne a).symm.trans h1) ((self_ne b).symm.trans h2)), 0, rfl⟩
  · go_enter Try.func18, Try.ntmps18
    go_wp2
    go_ret
    exact ⟨ret_bool (h2.symm.trans (sb_a ((self_ne a).symm.trans h1))), 0, rfl⟩
  · go_enter Try.func18, Try.ntmps18
    go_wp2
    go_ret
    exact ⟨ret_bool (h2.symm.trans (sb_a ((self_ne a).symm.trans h1))), 0, rfl⟩

set_option maxHeartbeats 1000000 in
theorem implSame_any (a b : Nat) (w : World) : Calls Try.prog 19 #[.float .f64 a, .float .f64 b] w fun e w' => e = .returned (.bool (sb a b)) ∧ w = w' := by
  cases h1 : nan a <;> cases h2 : nan b
  all_goals
    go_enter Try.func19, Try.ntmps19
    go_wp2_with (go_at_call 65; refine (missing_any _ _).mono ?_; rintro e w' ⟨rfl, rfl⟩)
    go_ret
    exact ⟨ret_bool (by unfold sb; rw [h1, h2]; rfl), rfl⟩

set_option maxHeartbeats 1000000 in
theorem lawSame (a b : Nat) (ha : a < 18446744073709551616) (hb : b < 18446744073709551616) (w : World) : Calls Try.prog 3 #[.float .f64 a, .float .f64 b] w fun e w' => e = .returned (.bool true) ∧ Below w.heap.size w w' := by
  go_enter Try.func3, Try.ntmps3
  go_wp2_with (first | (go_at_call 18; refine (specSame_any _ _ ha hb _).mono ?_; rintro e w' ⟨rfl, n, rfl⟩) | (go_at_call 19; refine (implSame_any _ _ _).mono ?_; rintro e w' ⟨rfl, rfl⟩))
  go_ret
  exact ⟨rfl, below_draws _ _⟩
end Go.Proofs.Ytbgacfjocjcffaa.Fc
