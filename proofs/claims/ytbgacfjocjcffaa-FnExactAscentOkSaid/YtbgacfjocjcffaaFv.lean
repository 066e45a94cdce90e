/-
  Contracts of Vapour (both sides) and of the functions that give a missing value; the law of Vapour.
  Conditions: none.
-/
import Derived.Test.YtbgacfjocjcffaaFc
import Derived.Lib.SmallJoins
namespace Go.Proofs.Ytbgacfjocjcffaa.Fv
open Go Go.RowKit Go.Proofs.Ytbgacfjocjcffaa.Fk Go.Proofs.Ytbgacfjocjcffaa.Qs Go.Proofs.Ytbgacfjocjcffaa.Fw Go.Proofs.Ytbgacfjocjcffaa.Fc

theorem run_store_float {P : Program} {w : World} {a : Addr} {m : Mode} (k : FloatKind) (x : Nat) : (store a (.float k x) m).run P w = stored P w a (.float k x) m := run_store P w a _ m rfl
theorem drewN_setCell (w : World) (n : Nat) (a : Addr) (v : Value) : (w.drewN n).setCell a v = (w.setCell a v).drewN n := rfl
theorem drewN_alloc (w : World) (n : Nat) (o : Obj) : (w.drewN n).alloc o = (w.alloc o).drewN n := rfl
attribute [local go_sem] run_store_float drewN_setCell drewN_alloc frombits_run
theorem draws {w u : World} (h : Below w.heap.size w u) (n : Nat) : Below w.heap.size w (u.drewN n) := ⟨h.os, h.tape, h.output, h.size, h.block⟩
theorem step {w u v : World} (h : Below w.heap.size w u) (k : Below u.heap.size u v) : Below w.heap.size w v := h.trans (k.mono h.size)

theorem can_qnan : can 9221120237041090561 = none := by decide
theorem l1None_any (w : World) : Calls Try.prog 68 #[] w fun e w' => ∃ r n, e = .returned (.float .f64 r) ∧ w' = w.drewN n ∧ can r = none ∧ r < 18446744073709551616 := by
  go_enter Try.func68, Try.ntmps68
  go_wp2_with (refine wpList_fop rfl rfl (by decide) rfl rfl ?_; intro r n hr hl; have hr' := Lib.hid hr; clear hr)
  go_ret
  exact ⟨_, _, rfl, rfl, by rw [hr'.out]; decide, by assumption⟩
theorem mathNaN_any (w : World) : Calls Try.prog 77 #[] w fun e w' => e = .returned (.float .f64 9221120237041090561) ∧ w = w' := by
  go_enter Try.func77, Try.ntmps77
  go_wp2
  go_ret
  exact ⟨rfl, rfl⟩
theorem nan_any (w : World) : Calls Try.prog 69 #[] w fun e w' => e = .returned (.float .f64 9221120237041090561) ∧ w = w' := by
  go_enter Try.func69, Try.ntmps69
  go_wp2_with (go_at_call 77; refine (mathNaN_any _).mono ?_; rintro e w' ⟨rfl, rfl⟩)
  go_ret
  exact ⟨rfl, rfl⟩

def inr (a : Nat) : Bool := (FloatKind.f64.format.order a 13855605728582041600 == some .gt || FloatKind.f64.format.order a 13855605728582041600 == some .eq) && (FloatKind.f64.format.order a 4632233691727265792 == some .lt || FloatKind.f64.format.order a 4632233691727265792 == some .eq)
def coef : List Nat := [4491732861304072521, 4524267740276402943, 4553525207041591613, 4579390933518564651, 4601663741181105082, 4618562789834491187]
def vp (t : Option Nat) : Nat → Option Nat
  | 0 => some 4454304567055758550
  | k + 1 => fop .add (some (coef.getD k 0)) (fop .mul t (vp t k))
def vap (a : Nat) : Option Nat := if inr a then vp (can a) 6 else none
theorem can_coef : ∀ k, k < 6 → can (coef.getD k 0) = some (coef.getD k 0) := by
  intro k hk
  rcases (by omega : k = 0 ∨ k = 1 ∨ k = 2 ∨ k = 3 ∨ k = 4 ∨ k = 5) with rfl | rfl | rfl | rfl | rfl | rfl <;> decide
theorem can_last : can 4454304567055758550 = some 4454304567055758550 := by decide
theorem vp_step {t : Option Nat} {k r1 r2 x : Nat} {c : Nat} (hc : c = coef.getD k 0) (hk : k < 6) (hx : can x = vp t k) (h1 : can r1 = fop .mul t (can x)) (h2 : can r2 = fop .add (can c) (can r1)) : can r2 = vp t (k + 1) := by
  rw [h2, h1, hx, hc, can_coef k hk]; rfl

theorem vp_mul {t : Option Nat} {k r1 r2 x : Nat} {c : Nat} (hc : c = coef.getD k 0) (hk : k < 6) (hx : can x = fop .mul t (vp t k)) (h1 : can r1 = fop .add (can c) (can x)) (h2 : can r2 = fop .mul t (can r1)) : can r2 = fop .mul t (vp t (k + 1)) := by
  rw [h2, h1, hx, hc, can_coef k hk]; rfl
theorem sfB_of {a b : Nat} (h : can a = can b) : sfB (can a) (can b) = true := by rw [h]; exact sfB_self _

set_option maxHeartbeats 4000000 in
theorem specVapour_any (a : Nat) (w : World) : Calls Try.prog 30 #[.float .f64 a] w fun e w' => ∃ r, e = .returned (.float .f64 r) ∧ can r = vap a ∧ r < 18446744073709551616 ∧ Below w.heap.size w w' := by
  cases h1 : (FloatKind.f64.format.order a 13855605728582041600 == some .gt || FloatKind.f64.format.order a 13855605728582041600 == some .eq)
  · go_enter Try.func30, Try.ntmps30
    go_wp2_with (go_at_call 68; refine (l1None_any _).mono ?_; rintro e w' ⟨r, n, rfl, rfl, hr, hl⟩; have hr' := Lib.hid hr; clear hr)
    go_ret
    exact ⟨_, rfl, by rw [hr'.out]; unfold vap inr; rw [h1]; rfl, hl, below_draws _ _⟩
  · cases h2 : (FloatKind.f64.format.order a 4632233691727265792 == some .lt || FloatKind.f64.format.order a 4632233691727265792 == some .eq)
    · go_enter Try.func30, Try.ntmps30
      go_wp2_with (go_at_call 68; refine (l1None_any _).mono ?_; rintro e w' ⟨r, n, rfl, rfl, hr, hl⟩; have hr' := Lib.hid hr; clear hr)
      go_ret
      exact ⟨_, rfl, by rw [hr'.out]; unfold vap inr; rw [h1, h2]; rfl, hl, below_draws _ _⟩
    · go_enter Try.func30, Try.ntmps30
      go_wp2
      go_loopw [4, 5] (fun v4 v5 w' => ∃ (k x n : Nat), k ≤ 6 ∧ v5 = .int .i64 (5 - k) ∧ v4 = .float .f64 x ∧ Hid (can x = vp (can a) k) ∧ x < 18446744073709551616 ∧ w' = (w.alloc (Obj.cells #[Value.float FloatKind.f64 4618562789834491187, Value.float FloatKind.f64 4601663741181105082, Value.float FloatKind.f64 4579390933518564651, Value.float FloatKind.f64 4553525207041591613, Value.float FloatKind.f64 4524267740276402943, Value.float FloatKind.f64 4491732861304072521, Value.float FloatKind.f64 4454304567055758550] 22)).drewN n) (fun _ i _ => (intOf i + 1).toNat)
      case atStart => exact ⟨0, _, 0, by omega, rfl, rfl, can_last, by omega, rfl⟩
      case round =>
        obtain ⟨k, x, n, hk, rfl, rfl, hx, hl, rfl⟩ := hrel
        rcases (by omega : k = 0 ∨ k = 1 ∨ k = 2 ∨ k = 3 ∨ k = 4 ∨ k = 5 ∨ k = 6) with rfl | rfl | rfl | rfl | rfl | rfl | rfl
        · go_wp2_with (refine wpList_fop rfl rfl (by decide) rfl rfl ?_; intro r n hr hl; have hr' := Lib.hid hr; clear hr)
          rename_i r0 n1 hl1 hr0
          exact ⟨⟨1, r, _, by omega, rfl, rfl, Lib.hid (vp_step rfl (by omega) hx.out hr0.out hr'.out), hl, rfl⟩, by decide⟩
        · go_wp2_with (refine wpList_fop rfl rfl (by decide) rfl rfl ?_; intro r n hr hl; have hr' := Lib.hid hr; clear hr)
          rename_i r0 n1 hl1 hr0
          exact ⟨⟨2, r, _, by omega, rfl, rfl, Lib.hid (vp_step rfl (by omega) hx.out hr0.out hr'.out), hl, rfl⟩, by decide⟩
        · go_wp2_with (refine wpList_fop rfl rfl (by decide) rfl rfl ?_; intro r n hr hl; have hr' := Lib.hid hr; clear hr)
          rename_i r0 n1 hl1 hr0
          exact ⟨⟨3, r, _, by omega, rfl, rfl, Lib.hid (vp_step rfl (by omega) hx.out hr0.out hr'.out), hl, rfl⟩, by decide⟩
        · go_wp2_with (refine wpList_fop rfl rfl (by decide) rfl rfl ?_; intro r n hr hl; have hr' := Lib.hid hr; clear hr)
          rename_i r0 n1 hl1 hr0
          exact ⟨⟨4, r, _, by omega, rfl, rfl, Lib.hid (vp_step rfl (by omega) hx.out hr0.out hr'.out), hl, rfl⟩, by decide⟩
        · go_wp2_with (refine wpList_fop rfl rfl (by decide) rfl rfl ?_; intro r n hr hl; have hr' := Lib.hid hr; clear hr)
          rename_i r0 n1 hl1 hr0
          exact ⟨⟨5, r, _, by omega, rfl, rfl, Lib.hid (vp_step rfl (by omega) hx.out hr0.out hr'.out), hl, rfl⟩, by decide⟩
        · go_wp2_with (refine wpList_fop rfl rfl (by decide) rfl rfl ?_; intro r n hr hl; have hr' := Lib.hid hr; clear hr)
          rename_i r0 n1 hl1 hr0
          exact ⟨⟨6, r, _, by omega, rfl, rfl, Lib.hid (vp_step rfl (by omega) hx.out hr0.out hr'.out), hl, rfl⟩, by decide⟩
        · go_wp2
          go_ret
          exact ⟨_, rfl, by rw [hx.out]; unfold vap inr; rw [h1, h2]; rfl, hl, draws (Joins.below_alloc1 _ _) _⟩

set_option maxHeartbeats 4000000 in
theorem implVapour_any (a : Nat) (w : World) : Calls Try.prog 31 #[.float .f64 a] w fun e w' => ∃ r, e = .returned (.float .f64 r) ∧ can r = vap a ∧ r < 18446744073709551616 ∧ Below w.heap.size w w' := by
  cases h1 : (FloatKind.f64.format.order a 13855605728582041600 == some .gt || FloatKind.f64.format.order a 13855605728582041600 == some .eq)
  · go_enter Try.func31, Try.ntmps31
    go_wp2_with (go_at_call 69; refine (nan_any _).mono ?_; rintro e w' ⟨rfl, rfl⟩)
    go_ret
    exact ⟨_, rfl, by unfold vap inr; rw [h1]; exact can_qnan, by omega, Below.refl _ _⟩
  · cases h2 : (FloatKind.f64.format.order a 4632233691727265792 == some .lt || FloatKind.f64.format.order a 4632233691727265792 == some .eq)
    · go_enter Try.func31, Try.ntmps31
      go_wp2_with (go_at_call 69; refine (nan_any _).mono ?_; rintro e w' ⟨rfl, rfl⟩)
      go_ret
      exact ⟨_, rfl, by unfold vap inr; rw [h1, h2]; exact can_qnan, by omega, Below.refl _ _⟩
    · go_enter Try.func31, Try.ntmps31
      go_wp2_with (refine wpList_fop rfl rfl (by decide) rfl rfl ?_; intro r n hr hl; have hr' := Lib.hid hr; clear hr)
      go_loopw [3, 18] (fun v3 v18 w' => ∃ (k x n : Nat), k ≤ 5 ∧ v18 = .int .i64 k ∧ v3 = .float .f64 x ∧ Hid (can x = fop .mul (can a) (vp (can a) k)) ∧ x < 18446744073709551616 ∧ w' = (w.alloc (Obj.cells #[Value.float FloatKind.f64 4491732861304072521, Value.float FloatKind.f64 4524267740276402943, Value.float FloatKind.f64 4553525207041591613, Value.float FloatKind.f64 4579390933518564651, Value.float FloatKind.f64 4601663741181105082] 22)).drewN n) (fun _ i _ => 5 - (intOf i).toNat)
      case atStart => exact ⟨0, r, n, by omega, rfl, rfl, Lib.hid (by rw [hr'.out, can_last]; rfl), hl, rfl⟩
      case round =>
        clear hr' hl
        obtain ⟨k, x, n, hk, rfl, rfl, hx, hl, rfl⟩ := hrel
        rcases (by omega : k = 0 ∨ k = 1 ∨ k = 2 ∨ k = 3 ∨ k = 4 ∨ k = 5) with rfl | rfl | rfl | rfl | rfl | rfl
        · go_wp2_with (refine wpList_fop rfl rfl (by decide) rfl rfl ?_; intro r n hr hl; have hr' := Lib.hid hr; clear hr)
          rename_i r0 n1 hl1 hr0
          exact ⟨⟨1, r, _, by omega, rfl, rfl, Lib.hid (vp_mul (k := 0) rfl (by omega) hx.out hr0.out hr'.out), hl, rfl⟩, by decide⟩
        · go_wp2_with (refine wpList_fop rfl rfl (by decide) rfl rfl ?_; intro r n hr hl; have hr' := Lib.hid hr; clear hr)
          rename_i r0 n1 hl1 hr0
          exact ⟨⟨2, r, _, by omega, rfl, rfl, Lib.hid (vp_mul (k := 1) rfl (by omega) hx.out hr0.out hr'.out), hl, rfl⟩, by decide⟩
        · go_wp2_with (refine wpList_fop rfl rfl (by decide) rfl rfl ?_; intro r n hr hl; have hr' := Lib.hid hr; clear hr)
          rename_i r0 n1 hl1 hr0
          exact ⟨⟨3, r, _, by omega, rfl, rfl, Lib.hid (vp_mul (k := 2) rfl (by omega) hx.out hr0.out hr'.out), hl, rfl⟩, by decide⟩
        · go_wp2_with (refine wpList_fop rfl rfl (by decide) rfl rfl ?_; intro r n hr hl; have hr' := Lib.hid hr; clear hr)
          rename_i r0 n1 hl1 hr0
          exact ⟨⟨4, r, _, by omega, rfl, rfl, Lib.hid (vp_mul (k := 3) rfl (by omega) hx.out hr0.out hr'.out), hl, rfl⟩, by decide⟩
        · go_wp2_with (refine wpList_fop rfl rfl (by decide) rfl rfl ?_; intro r n hr hl; have hr' := Lib.hid hr; clear hr)
          rename_i r0 n1 hl1 hr0
          exact ⟨⟨5, r, _, by omega, rfl, rfl, Lib.hid (vp_mul (k := 4) rfl (by omega) hx.out hr0.out hr'.out), hl, rfl⟩, by decide⟩
        · go_wp2_with (refine wpList_fop rfl rfl (by decide) rfl rfl ?_; intro r n hr hl; have hr' := Lib.hid hr; clear hr)
          go_ret
          exact ⟨_, rfl, by rw [hr'.out, hx.out]; unfold vap inr; rw [h1, h2]; rfl, hl, draws (Joins.below_alloc1 _ _) _⟩

set_option maxHeartbeats 1000000 in
theorem lawVapour (a : Nat) (w : World) : Calls Try.prog 8 #[.float .f64 a] w fun e w' => e = .returned (.bool true) ∧ Below w.heap.size w w' := by
  have HB := Lib.hid (Below.refl w.heap.size w)
  go_enter Try.func8, Try.ntmps8
  go_wp2_with (first
    | (go_at_call 30; refine (specVapour_any _ _).mono ?_; rintro e w' ⟨rs, rfl, hs, ls, hb⟩; replace HB := Lib.hid (step HB.out hb); have hs' := Lib.hid hs; clear hs hb)
    | (go_at_call 31; refine (implVapour_any _ _).mono ?_; rintro e w' ⟨ri, rfl, hi, li, hb⟩; replace HB := Lib.hid (step HB.out hb); have q1 := sfB_of (hi.trans hs'.out.symm); clear hi hb)
    | (go_at_call 32; refine (sameFloat_any _ _ _).mono ?_; rintro e w' ⟨rfl, n, rfl⟩))
  go_ret
  exact ⟨rfl, draws HB.out _⟩
end Go.Proofs.Ytbgacfjocjcffaa.Fv
