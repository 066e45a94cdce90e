/-
  Contracts of the sines and of Turn (both sides); the law of Turn.
  Conditions: the table of sines stands as laid.
-/
import Derived.Test.YtbgacfjocjcffabDoorFp
import Derived.Test.YtbgacfjocjcffabDoorDk
namespace Go.Proofs.YtbgacfjocjcffabDoor.Dt
open Go Go.RowKit Go.Proofs.YtbgacfjocjcffabDoor.Fk Go.Proofs.YtbgacfjocjcffabDoor.Qs Go.Proofs.YtbgacfjocjcffabDoor.Fw Go.Proofs.YtbgacfjocjcffabDoor.Fc Go.Proofs.YtbgacfjocjcffabDoor.Fp Go.Proofs.YtbgacfjocjcffabDoor.Dk
attribute [local go_sem] run_store_float drewN_setCell drewN_alloc

def sines : List Nat := [0, 4595424355236410249, 4599832907078044661, 4602678819172646912, 4603964935624201756, 4605075134482436153, 4605975682916830378, 4606639218218904859, 4607045579204271127, 4607182418800017408]
def tb (i : Nat) : Nat := sines.getD i 0
/-- The sine of j tens of degrees, all NaNs one. -/
def sn (j : Int) : Option Nat := if j ≤ 9 then can (tb j.toNat) else if j ≤ 18 then can (tb (18 - j).toNat) else if j ≤ 27 then fop .sub (some 0) (can (tb (j - 18).toNat)) else fop .sub (some 0) (can (tb (36 - j).toNat))
/-- Its bits. -/
def sv (j : Int) : Nat := match sn j with | some r => r | none => 0
theorem sn_sv {j : Int} (h0 : 0 ≤ j) (h1 : j < 36) : sn j = some (sv j) ∧ can (sv j) = some (sv j) ∧ sv j < 18446744073709551616 := by
  have : j = 0 ∨ j = 1 ∨ j = 2 ∨ j = 3 ∨ j = 4 ∨ j = 5 ∨ j = 6 ∨ j = 7 ∨ j = 8 ∨ j = 9 ∨ j = 10 ∨ j = 11 ∨ j = 12 ∨ j = 13 ∨ j = 14 ∨ j = 15 ∨ j = 16 ∨ j = 17 ∨ j = 18 ∨ j = 19 ∨ j = 20 ∨ j = 21 ∨ j = 22 ∨ j = 23 ∨ j = 24 ∨ j = 25 ∨ j = 26 ∨ j = 27 ∨ j = 28 ∨ j = 29 ∨ j = 30 ∨ j = 31 ∨ j = 32 ∨ j = 33 ∨ j = 34 ∨ j = 35 := by omega
  rcases this with rfl | rfl | rfl | rfl | rfl | rfl | rfl | rfl | rfl | rfl | rfl | rfl | rfl | rfl | rfl | rfl | rfl | rfl | rfl | rfl | rfl | rfl | rfl | rfl | rfl | rfl | rfl | rfl | rfl | rfl | rfl | rfl | rfl | rfl | rfl | rfl <;> decide +kernel
theorem r_sv {r : Nat} {j : Int} (h0 : 0 ≤ j) (h1 : j < 36) (h : can r = sn j) : r = sv j := by
  rw [(sn_sv h0 h1).1] at h
  exact (can_some h).1

theorem spec0 (k : Int) (hj : (wrap64 (k.tmod 36 + 36)).tmod 36 = 0) (w : World) : Calls Tryd.prog 34 #[.int .i64 k] w fun e w' => e = .returned (.float .f64 (sv 0)) ∧ Below w.heap.size w w' := by
  go_enter Tryd.func34, Tryd.ntmps34
  go_wp2
  go_ret
  exact ⟨by rw [show sv 0 = 0 from by decide +kernel]; rfl, Joins.below_alloc1 _ _⟩
theorem spec1 (k : Int) (hj : (wrap64 (k.tmod 36 + 36)).tmod 36 = 1) (w : World) : Calls Tryd.prog 34 #[.int .i64 k] w fun e w' => e = .returned (.float .f64 (sv 1)) ∧ Below w.heap.size w w' := by
  go_enter Tryd.func34, Tryd.ntmps34
  go_wp2
  go_ret
  exact ⟨by rw [show sv 1 = 4595424355236410249 from by decide +kernel]; rfl, Joins.below_alloc1 _ _⟩
theorem spec2 (k : Int) (hj : (wrap64 (k.tmod 36 + 36)).tmod 36 = 2) (w : World) : Calls Tryd.prog 34 #[.int .i64 k] w fun e w' => e = .returned (.float .f64 (sv 2)) ∧ Below w.heap.size w w' := by
  go_enter Tryd.func34, Tryd.ntmps34
  go_wp2
  go_ret
  exact ⟨by rw [show sv 2 = 4599832907078044661 from by decide +kernel]; rfl, Joins.below_alloc1 _ _⟩
theorem spec3 (k : Int) (hj : (wrap64 (k.tmod 36 + 36)).tmod 36 = 3) (w : World) : Calls Tryd.prog 34 #[.int .i64 k] w fun e w' => e = .returned (.float .f64 (sv 3)) ∧ Below w.heap.size w w' := by
  go_enter Tryd.func34, Tryd.ntmps34
  go_wp2
  go_ret
  exact ⟨by rw [show sv 3 = 4602678819172646912 from by decide +kernel]; rfl, Joins.below_alloc1 _ _⟩
theorem spec4 (k : Int) (hj : (wrap64 (k.tmod 36 + 36)).tmod 36 = 4) (w : World) : Calls Tryd.prog 34 #[.int .i64 k] w fun e w' => e = .returned (.float .f64 (sv 4)) ∧ Below w.heap.size w w' := by
  go_enter Tryd.func34, Tryd.ntmps34
  go_wp2
  go_ret
  exact ⟨by rw [show sv 4 = 4603964935624201756 from by decide +kernel]; rfl, Joins.below_alloc1 _ _⟩
theorem spec5 (k : Int) (hj : (wrap64 (k.tmod 36 + 36)).tmod 36 = 5) (w : World) : Calls Tryd.prog 34 #[.int .i64 k] w fun e w' => e = .returned (.float .f64 (sv 5)) ∧ Below w.heap.size w w' := by
  go_enter Tryd.func34, Tryd.ntmps34
  go_wp2
  go_ret
  exact ⟨by rw [show sv 5 = 4605075134482436153 from by decide +kernel]; rfl, Joins.below_alloc1 _ _⟩
theorem spec6 (k : Int) (hj : (wrap64 (k.tmod 36 + 36)).tmod 36 = 6) (w : World) : Calls Tryd.prog 34 #[.int .i64 k] w fun e w' => e = .returned (.float .f64 (sv 6)) ∧ Below w.heap.size w w' := by
  go_enter Tryd.func34, Tryd.ntmps34
  go_wp2
  go_ret
  exact ⟨by rw [show sv 6 = 4605975682916830378 from by decide +kernel]; rfl, Joins.below_alloc1 _ _⟩
theorem spec7 (k : Int) (hj : (wrap64 (k.tmod 36 + 36)).tmod 36 = 7) (w : World) : Calls Tryd.prog 34 #[.int .i64 k] w fun e w' => e = .returned (.float .f64 (sv 7)) ∧ Below w.heap.size w w' := by
  go_enter Tryd.func34, Tryd.ntmps34
  go_wp2
  go_ret
  exact ⟨by rw [show sv 7 = 4606639218218904859 from by decide +kernel]; rfl, Joins.below_alloc1 _ _⟩
theorem spec8 (k : Int) (hj : (wrap64 (k.tmod 36 + 36)).tmod 36 = 8) (w : World) : Calls Tryd.prog 34 #[.int .i64 k] w fun e w' => e = .returned (.float .f64 (sv 8)) ∧ Below w.heap.size w w' := by
  go_enter Tryd.func34, Tryd.ntmps34
  go_wp2
  go_ret
  exact ⟨by rw [show sv 8 = 4607045579204271127 from by decide +kernel]; rfl, Joins.below_alloc1 _ _⟩
theorem spec9 (k : Int) (hj : (wrap64 (k.tmod 36 + 36)).tmod 36 = 9) (w : World) : Calls Tryd.prog 34 #[.int .i64 k] w fun e w' => e = .returned (.float .f64 (sv 9)) ∧ Below w.heap.size w w' := by
  go_enter Tryd.func34, Tryd.ntmps34
  go_wp2
  go_ret
  exact ⟨by rw [show sv 9 = 4607182418800017408 from by decide +kernel]; rfl, Joins.below_alloc1 _ _⟩
theorem spec10 (k : Int) (hj : (wrap64 (k.tmod 36 + 36)).tmod 36 = 10) (w : World) : Calls Tryd.prog 34 #[.int .i64 k] w fun e w' => e = .returned (.float .f64 (sv 10)) ∧ Below w.heap.size w w' := by
  go_enter Tryd.func34, Tryd.ntmps34
  go_wp2
  go_ret
  exact ⟨by rw [show sv 10 = 4607045579204271127 from by decide +kernel]; rfl, Joins.below_alloc1 _ _⟩
theorem spec11 (k : Int) (hj : (wrap64 (k.tmod 36 + 36)).tmod 36 = 11) (w : World) : Calls Tryd.prog 34 #[.int .i64 k] w fun e w' => e = .returned (.float .f64 (sv 11)) ∧ Below w.heap.size w w' := by
  go_enter Tryd.func34, Tryd.ntmps34
  go_wp2
  go_ret
  exact ⟨by rw [show sv 11 = 4606639218218904859 from by decide +kernel]; rfl, Joins.below_alloc1 _ _⟩
theorem spec12 (k : Int) (hj : (wrap64 (k.tmod 36 + 36)).tmod 36 = 12) (w : World) : Calls Tryd.prog 34 #[.int .i64 k] w fun e w' => e = .returned (.float .f64 (sv 12)) ∧ Below w.heap.size w w' := by
  go_enter Tryd.func34, Tryd.ntmps34
  go_wp2
  go_ret
  exact ⟨by rw [show sv 12 = 4605975682916830378 from by decide +kernel]; rfl, Joins.below_alloc1 _ _⟩
theorem spec13 (k : Int) (hj : (wrap64 (k.tmod 36 + 36)).tmod 36 = 13) (w : World) : Calls Tryd.prog 34 #[.int .i64 k] w fun e w' => e = .returned (.float .f64 (sv 13)) ∧ Below w.heap.size w w' := by
  go_enter Tryd.func34, Tryd.ntmps34
  go_wp2
  go_ret
  exact ⟨by rw [show sv 13 = 4605075134482436153 from by decide +kernel]; rfl, Joins.below_alloc1 _ _⟩
theorem spec14 (k : Int) (hj : (wrap64 (k.tmod 36 + 36)).tmod 36 = 14) (w : World) : Calls Tryd.prog 34 #[.int .i64 k] w fun e w' => e = .returned (.float .f64 (sv 14)) ∧ Below w.heap.size w w' := by
  go_enter Tryd.func34, Tryd.ntmps34
  go_wp2
  go_ret
  exact ⟨by rw [show sv 14 = 4603964935624201756 from by decide +kernel]; rfl, Joins.below_alloc1 _ _⟩
theorem spec15 (k : Int) (hj : (wrap64 (k.tmod 36 + 36)).tmod 36 = 15) (w : World) : Calls Tryd.prog 34 #[.int .i64 k] w fun e w' => e = .returned (.float .f64 (sv 15)) ∧ Below w.heap.size w w' := by
  go_enter Tryd.func34, Tryd.ntmps34
  go_wp2
  go_ret
  exact ⟨by rw [show sv 15 = 4602678819172646912 from by decide +kernel]; rfl, Joins.below_alloc1 _ _⟩
theorem spec16 (k : Int) (hj : (wrap64 (k.tmod 36 + 36)).tmod 36 = 16) (w : World) : Calls Tryd.prog 34 #[.int .i64 k] w fun e w' => e = .returned (.float .f64 (sv 16)) ∧ Below w.heap.size w w' := by
  go_enter Tryd.func34, Tryd.ntmps34
  go_wp2
  go_ret
  exact ⟨by rw [show sv 16 = 4599832907078044661 from by decide +kernel]; rfl, Joins.below_alloc1 _ _⟩
theorem spec17 (k : Int) (hj : (wrap64 (k.tmod 36 + 36)).tmod 36 = 17) (w : World) : Calls Tryd.prog 34 #[.int .i64 k] w fun e w' => e = .returned (.float .f64 (sv 17)) ∧ Below w.heap.size w w' := by
  go_enter Tryd.func34, Tryd.ntmps34
  go_wp2
  go_ret
  exact ⟨by rw [show sv 17 = 4595424355236410249 from by decide +kernel]; rfl, Joins.below_alloc1 _ _⟩
theorem spec18 (k : Int) (hj : (wrap64 (k.tmod 36 + 36)).tmod 36 = 18) (w : World) : Calls Tryd.prog 34 #[.int .i64 k] w fun e w' => e = .returned (.float .f64 (sv 18)) ∧ Below w.heap.size w w' := by
  go_enter Tryd.func34, Tryd.ntmps34
  go_wp2
  go_ret
  exact ⟨by rw [show sv 18 = 0 from by decide +kernel]; rfl, Joins.below_alloc1 _ _⟩
theorem spec19 (k : Int) (hj : (wrap64 (k.tmod 36 + 36)).tmod 36 = 19) (w : World) : Calls Tryd.prog 34 #[.int .i64 k] w fun e w' => e = .returned (.float .f64 (sv 19)) ∧ Below w.heap.size w w' := by
  go_enter Tryd.func34, Tryd.ntmps34
  go_wp2_with (refine wpList_fop rfl rfl (by decide) rfl rfl ?_; intro r n hr hl; have hr' := Lib.hid hr; clear hr hl)
  go_ret
  have e := r_sv (j := 19) (by decide) (by decide) (hr'.out.trans (by decide +kernel))
  exact ⟨by rw [← e]; rfl, draws (Joins.below_alloc1 _ _) _⟩
theorem spec20 (k : Int) (hj : (wrap64 (k.tmod 36 + 36)).tmod 36 = 20) (w : World) : Calls Tryd.prog 34 #[.int .i64 k] w fun e w' => e = .returned (.float .f64 (sv 20)) ∧ Below w.heap.size w w' := by
  go_enter Tryd.func34, Tryd.ntmps34
  go_wp2_with (refine wpList_fop rfl rfl (by decide) rfl rfl ?_; intro r n hr hl; have hr' := Lib.hid hr; clear hr hl)
  go_ret
  have e := r_sv (j := 20) (by decide) (by decide) (hr'.out.trans (by decide +kernel))
  exact ⟨by rw [← e]; rfl, draws (Joins.below_alloc1 _ _) _⟩
theorem spec21 (k : Int) (hj : (wrap64 (k.tmod 36 + 36)).tmod 36 = 21) (w : World) : Calls Tryd.prog 34 #[.int .i64 k] w fun e w' => e = .returned (.float .f64 (sv 21)) ∧ Below w.heap.size w w' := by
  go_enter Tryd.func34, Tryd.ntmps34
  go_wp2_with (refine wpList_fop rfl rfl (by decide) rfl rfl ?_; intro r n hr hl; have hr' := Lib.hid hr; clear hr hl)
  go_ret
  have e := r_sv (j := 21) (by decide) (by decide) (hr'.out.trans (by decide +kernel))
  exact ⟨by rw [← e]; rfl, draws (Joins.below_alloc1 _ _) _⟩
theorem spec22 (k : Int) (hj : (wrap64 (k.tmod 36 + 36)).tmod 36 = 22) (w : World) : Calls Tryd.prog 34 #[.int .i64 k] w fun e w' => e = .returned (.float .f64 (sv 22)) ∧ Below w.heap.size w w' := by
  go_enter Tryd.func34, Tryd.ntmps34
  go_wp2_with (refine wpList_fop rfl rfl (by decide) rfl rfl ?_; intro r n hr hl; have hr' := Lib.hid hr; clear hr hl)
  go_ret
  have e := r_sv (j := 22) (by decide) (by decide) (hr'.out.trans (by decide +kernel))
  exact ⟨by rw [← e]; rfl, draws (Joins.below_alloc1 _ _) _⟩
theorem spec23 (k : Int) (hj : (wrap64 (k.tmod 36 + 36)).tmod 36 = 23) (w : World) : Calls Tryd.prog 34 #[.int .i64 k] w fun e w' => e = .returned (.float .f64 (sv 23)) ∧ Below w.heap.size w w' := by
  go_enter Tryd.func34, Tryd.ntmps34
  go_wp2_with (refine wpList_fop rfl rfl (by decide) rfl rfl ?_; intro r n hr hl; have hr' := Lib.hid hr; clear hr hl)
  go_ret
  have e := r_sv (j := 23) (by decide) (by decide) (hr'.out.trans (by decide +kernel))
  exact ⟨by rw [← e]; rfl, draws (Joins.below_alloc1 _ _) _⟩
theorem spec24 (k : Int) (hj : (wrap64 (k.tmod 36 + 36)).tmod 36 = 24) (w : World) : Calls Tryd.prog 34 #[.int .i64 k] w fun e w' => e = .returned (.float .f64 (sv 24)) ∧ Below w.heap.size w w' := by
  go_enter Tryd.func34, Tryd.ntmps34
  go_wp2_with (refine wpList_fop rfl rfl (by decide) rfl rfl ?_; intro r n hr hl; have hr' := Lib.hid hr; clear hr hl)
  go_ret
  have e := r_sv (j := 24) (by decide) (by decide) (hr'.out.trans (by decide +kernel))
  exact ⟨by rw [← e]; rfl, draws (Joins.below_alloc1 _ _) _⟩
theorem spec25 (k : Int) (hj : (wrap64 (k.tmod 36 + 36)).tmod 36 = 25) (w : World) : Calls Tryd.prog 34 #[.int .i64 k] w fun e w' => e = .returned (.float .f64 (sv 25)) ∧ Below w.heap.size w w' := by
  go_enter Tryd.func34, Tryd.ntmps34
  go_wp2_with (refine wpList_fop rfl rfl (by decide) rfl rfl ?_; intro r n hr hl; have hr' := Lib.hid hr; clear hr hl)
  go_ret
  have e := r_sv (j := 25) (by decide) (by decide) (hr'.out.trans (by decide +kernel))
  exact ⟨by rw [← e]; rfl, draws (Joins.below_alloc1 _ _) _⟩
theorem spec26 (k : Int) (hj : (wrap64 (k.tmod 36 + 36)).tmod 36 = 26) (w : World) : Calls Tryd.prog 34 #[.int .i64 k] w fun e w' => e = .returned (.float .f64 (sv 26)) ∧ Below w.heap.size w w' := by
  go_enter Tryd.func34, Tryd.ntmps34
  go_wp2_with (refine wpList_fop rfl rfl (by decide) rfl rfl ?_; intro r n hr hl; have hr' := Lib.hid hr; clear hr hl)
  go_ret
  have e := r_sv (j := 26) (by decide) (by decide) (hr'.out.trans (by decide +kernel))
  exact ⟨by rw [← e]; rfl, draws (Joins.below_alloc1 _ _) _⟩
theorem spec27 (k : Int) (hj : (wrap64 (k.tmod 36 + 36)).tmod 36 = 27) (w : World) : Calls Tryd.prog 34 #[.int .i64 k] w fun e w' => e = .returned (.float .f64 (sv 27)) ∧ Below w.heap.size w w' := by
  go_enter Tryd.func34, Tryd.ntmps34
  go_wp2_with (refine wpList_fop rfl rfl (by decide) rfl rfl ?_; intro r n hr hl; have hr' := Lib.hid hr; clear hr hl)
  go_ret
  have e := r_sv (j := 27) (by decide) (by decide) (hr'.out.trans (by decide +kernel))
  exact ⟨by rw [← e]; rfl, draws (Joins.below_alloc1 _ _) _⟩
theorem spec28 (k : Int) (hj : (wrap64 (k.tmod 36 + 36)).tmod 36 = 28) (w : World) : Calls Tryd.prog 34 #[.int .i64 k] w fun e w' => e = .returned (.float .f64 (sv 28)) ∧ Below w.heap.size w w' := by
  go_enter Tryd.func34, Tryd.ntmps34
  go_wp2_with (refine wpList_fop rfl rfl (by decide) rfl rfl ?_; intro r n hr hl; have hr' := Lib.hid hr; clear hr hl)
  go_ret
  have e := r_sv (j := 28) (by decide) (by decide) (hr'.out.trans (by decide +kernel))
  exact ⟨by rw [← e]; rfl, draws (Joins.below_alloc1 _ _) _⟩
theorem spec29 (k : Int) (hj : (wrap64 (k.tmod 36 + 36)).tmod 36 = 29) (w : World) : Calls Tryd.prog 34 #[.int .i64 k] w fun e w' => e = .returned (.float .f64 (sv 29)) ∧ Below w.heap.size w w' := by
  go_enter Tryd.func34, Tryd.ntmps34
  go_wp2_with (refine wpList_fop rfl rfl (by decide) rfl rfl ?_; intro r n hr hl; have hr' := Lib.hid hr; clear hr hl)
  go_ret
  have e := r_sv (j := 29) (by decide) (by decide) (hr'.out.trans (by decide +kernel))
  exact ⟨by rw [← e]; rfl, draws (Joins.below_alloc1 _ _) _⟩
theorem spec30 (k : Int) (hj : (wrap64 (k.tmod 36 + 36)).tmod 36 = 30) (w : World) : Calls Tryd.prog 34 #[.int .i64 k] w fun e w' => e = .returned (.float .f64 (sv 30)) ∧ Below w.heap.size w w' := by
  go_enter Tryd.func34, Tryd.ntmps34
  go_wp2_with (refine wpList_fop rfl rfl (by decide) rfl rfl ?_; intro r n hr hl; have hr' := Lib.hid hr; clear hr hl)
  go_ret
  have e := r_sv (j := 30) (by decide) (by decide) (hr'.out.trans (by decide +kernel))
  exact ⟨by rw [← e]; rfl, draws (Joins.below_alloc1 _ _) _⟩
theorem spec31 (k : Int) (hj : (wrap64 (k.tmod 36 + 36)).tmod 36 = 31) (w : World) : Calls Tryd.prog 34 #[.int .i64 k] w fun e w' => e = .returned (.float .f64 (sv 31)) ∧ Below w.heap.size w w' := by
  go_enter Tryd.func34, Tryd.ntmps34
  go_wp2_with (refine wpList_fop rfl rfl (by decide) rfl rfl ?_; intro r n hr hl; have hr' := Lib.hid hr; clear hr hl)
  go_ret
  have e := r_sv (j := 31) (by decide) (by decide) (hr'.out.trans (by decide +kernel))
  exact ⟨by rw [← e]; rfl, draws (Joins.below_alloc1 _ _) _⟩
theorem spec32 (k : Int) (hj : (wrap64 (k.tmod 36 + 36)).tmod 36 = 32) (w : World) : Calls Tryd.prog 34 #[.int .i64 k] w fun e w' => e = .returned (.float .f64 (sv 32)) ∧ Below w.heap.size w w' := by
  go_enter Tryd.func34, Tryd.ntmps34
  go_wp2_with (refine wpList_fop rfl rfl (by decide) rfl rfl ?_; intro r n hr hl; have hr' := Lib.hid hr; clear hr hl)
  go_ret
  have e := r_sv (j := 32) (by decide) (by decide) (hr'.out.trans (by decide +kernel))
  exact ⟨by rw [← e]; rfl, draws (Joins.below_alloc1 _ _) _⟩
theorem spec33 (k : Int) (hj : (wrap64 (k.tmod 36 + 36)).tmod 36 = 33) (w : World) : Calls Tryd.prog 34 #[.int .i64 k] w fun e w' => e = .returned (.float .f64 (sv 33)) ∧ Below w.heap.size w w' := by
  go_enter Tryd.func34, Tryd.ntmps34
  go_wp2_with (refine wpList_fop rfl rfl (by decide) rfl rfl ?_; intro r n hr hl; have hr' := Lib.hid hr; clear hr hl)
  go_ret
  have e := r_sv (j := 33) (by decide) (by decide) (hr'.out.trans (by decide +kernel))
  exact ⟨by rw [← e]; rfl, draws (Joins.below_alloc1 _ _) _⟩
theorem spec34 (k : Int) (hj : (wrap64 (k.tmod 36 + 36)).tmod 36 = 34) (w : World) : Calls Tryd.prog 34 #[.int .i64 k] w fun e w' => e = .returned (.float .f64 (sv 34)) ∧ Below w.heap.size w w' := by
  go_enter Tryd.func34, Tryd.ntmps34
  go_wp2_with (refine wpList_fop rfl rfl (by decide) rfl rfl ?_; intro r n hr hl; have hr' := Lib.hid hr; clear hr hl)
  go_ret
  have e := r_sv (j := 34) (by decide) (by decide) (hr'.out.trans (by decide +kernel))
  exact ⟨by rw [← e]; rfl, draws (Joins.below_alloc1 _ _) _⟩
theorem spec35 (k : Int) (hj : (wrap64 (k.tmod 36 + 36)).tmod 36 = 35) (w : World) : Calls Tryd.prog 34 #[.int .i64 k] w fun e w' => e = .returned (.float .f64 (sv 35)) ∧ Below w.heap.size w w' := by
  go_enter Tryd.func34, Tryd.ntmps34
  go_wp2_with (refine wpList_fop rfl rfl (by decide) rfl rfl ?_; intro r n hr hl; have hr' := Lib.hid hr; clear hr hl)
  go_ret
  have e := r_sv (j := 35) (by decide) (by decide) (hr'.out.trans (by decide +kernel))
  exact ⟨by rw [← e]; rfl, draws (Joins.below_alloc1 _ _) _⟩
theorem specSine_any (k j : Int) (hj : (wrap64 (k.tmod 36 + 36)).tmod 36 = j) (h0 : 0 ≤ j) (h1 : j < 36) (w : World) : Calls Tryd.prog 34 #[.int .i64 k] w fun e w' => e = .returned (.float .f64 (sv j)) ∧ Below w.heap.size w w' := by
  have : j = 0 ∨ j = 1 ∨ j = 2 ∨ j = 3 ∨ j = 4 ∨ j = 5 ∨ j = 6 ∨ j = 7 ∨ j = 8 ∨ j = 9 ∨ j = 10 ∨ j = 11 ∨ j = 12 ∨ j = 13 ∨ j = 14 ∨ j = 15 ∨ j = 16 ∨ j = 17 ∨ j = 18 ∨ j = 19 ∨ j = 20 ∨ j = 21 ∨ j = 22 ∨ j = 23 ∨ j = 24 ∨ j = 25 ∨ j = 26 ∨ j = 27 ∨ j = 28 ∨ j = 29 ∨ j = 30 ∨ j = 31 ∨ j = 32 ∨ j = 33 ∨ j = 34 ∨ j = 35 := by omega
  clear h0 h1
  rcases this with rfl | rfl | rfl | rfl | rfl | rfl | rfl | rfl | rfl | rfl | rfl | rfl | rfl | rfl | rfl | rfl | rfl | rfl | rfl | rfl | rfl | rfl | rfl | rfl | rfl | rfl | rfl | rfl | rfl | rfl | rfl | rfl | rfl | rfl | rfl | rfl
  · exact spec0 k hj w
  · exact spec1 k hj w
  · exact spec2 k hj w
  · exact spec3 k hj w
  · exact spec4 k hj w
  · exact spec5 k hj w
  · exact spec6 k hj w
  · exact spec7 k hj w
  · exact spec8 k hj w
  · exact spec9 k hj w
  · exact spec10 k hj w
  · exact spec11 k hj w
  · exact spec12 k hj w
  · exact spec13 k hj w
  · exact spec14 k hj w
  · exact spec15 k hj w
  · exact spec16 k hj w
  · exact spec17 k hj w
  · exact spec18 k hj w
  · exact spec19 k hj w
  · exact spec20 k hj w
  · exact spec21 k hj w
  · exact spec22 k hj w
  · exact spec23 k hj w
  · exact spec24 k hj w
  · exact spec25 k hj w
  · exact spec26 k hj w
  · exact spec27 k hj w
  · exact spec28 k hj w
  · exact spec29 k hj w
  · exact spec30 k hj w
  · exact spec31 k hj w
  · exact spec32 k hj w
  · exact spec33 k hj w
  · exact spec34 k hj w
  · exact spec35 k hj w
theorem impl0 (w : World) (hc : w.cell? ⟨2, 0, none⟩ = some (.float .f64 0)) : Calls Tryd.prog 36 #[.int .i64 0] w fun e w' => e = .returned (.float .f64 (sv 0)) ∧ Below w.heap.size w w' := by
  go_enter Tryd.func36, Tryd.ntmps36
  go_wp2
  go_ret
  exact ⟨by rw [show sv 0 = 0 from by decide +kernel]; rfl, Below.refl _ _⟩
theorem impl1 (w : World) (hc : w.cell? ⟨2, 1, none⟩ = some (.float .f64 4595424355236410249)) : Calls Tryd.prog 36 #[.int .i64 1] w fun e w' => e = .returned (.float .f64 (sv 1)) ∧ Below w.heap.size w w' := by
  go_enter Tryd.func36, Tryd.ntmps36
  go_wp2
  go_ret
  exact ⟨by rw [show sv 1 = 4595424355236410249 from by decide +kernel]; rfl, Below.refl _ _⟩
theorem impl2 (w : World) (hc : w.cell? ⟨2, 2, none⟩ = some (.float .f64 4599832907078044661)) : Calls Tryd.prog 36 #[.int .i64 2] w fun e w' => e = .returned (.float .f64 (sv 2)) ∧ Below w.heap.size w w' := by
  go_enter Tryd.func36, Tryd.ntmps36
  go_wp2
  go_ret
  exact ⟨by rw [show sv 2 = 4599832907078044661 from by decide +kernel]; rfl, Below.refl _ _⟩
theorem impl3 (w : World) (hc : w.cell? ⟨2, 3, none⟩ = some (.float .f64 4602678819172646912)) : Calls Tryd.prog 36 #[.int .i64 3] w fun e w' => e = .returned (.float .f64 (sv 3)) ∧ Below w.heap.size w w' := by
  go_enter Tryd.func36, Tryd.ntmps36
  go_wp2
  go_ret
  exact ⟨by rw [show sv 3 = 4602678819172646912 from by decide +kernel]; rfl, Below.refl _ _⟩
theorem impl4 (w : World) (hc : w.cell? ⟨2, 4, none⟩ = some (.float .f64 4603964935624201756)) : Calls Tryd.prog 36 #[.int .i64 4] w fun e w' => e = .returned (.float .f64 (sv 4)) ∧ Below w.heap.size w w' := by
  go_enter Tryd.func36, Tryd.ntmps36
  go_wp2
  go_ret
  exact ⟨by rw [show sv 4 = 4603964935624201756 from by decide +kernel]; rfl, Below.refl _ _⟩
theorem impl5 (w : World) (hc : w.cell? ⟨2, 5, none⟩ = some (.float .f64 4605075134482436153)) : Calls Tryd.prog 36 #[.int .i64 5] w fun e w' => e = .returned (.float .f64 (sv 5)) ∧ Below w.heap.size w w' := by
  go_enter Tryd.func36, Tryd.ntmps36
  go_wp2
  go_ret
  exact ⟨by rw [show sv 5 = 4605075134482436153 from by decide +kernel]; rfl, Below.refl _ _⟩
theorem impl6 (w : World) (hc : w.cell? ⟨2, 6, none⟩ = some (.float .f64 4605975682916830378)) : Calls Tryd.prog 36 #[.int .i64 6] w fun e w' => e = .returned (.float .f64 (sv 6)) ∧ Below w.heap.size w w' := by
  go_enter Tryd.func36, Tryd.ntmps36
  go_wp2
  go_ret
  exact ⟨by rw [show sv 6 = 4605975682916830378 from by decide +kernel]; rfl, Below.refl _ _⟩
theorem impl7 (w : World) (hc : w.cell? ⟨2, 7, none⟩ = some (.float .f64 4606639218218904859)) : Calls Tryd.prog 36 #[.int .i64 7] w fun e w' => e = .returned (.float .f64 (sv 7)) ∧ Below w.heap.size w w' := by
  go_enter Tryd.func36, Tryd.ntmps36
  go_wp2
  go_ret
  exact ⟨by rw [show sv 7 = 4606639218218904859 from by decide +kernel]; rfl, Below.refl _ _⟩
theorem impl8 (w : World) (hc : w.cell? ⟨2, 8, none⟩ = some (.float .f64 4607045579204271127)) : Calls Tryd.prog 36 #[.int .i64 8] w fun e w' => e = .returned (.float .f64 (sv 8)) ∧ Below w.heap.size w w' := by
  go_enter Tryd.func36, Tryd.ntmps36
  go_wp2
  go_ret
  exact ⟨by rw [show sv 8 = 4607045579204271127 from by decide +kernel]; rfl, Below.refl _ _⟩
theorem impl9 (w : World) (hc : w.cell? ⟨2, 9, none⟩ = some (.float .f64 4607182418800017408)) : Calls Tryd.prog 36 #[.int .i64 9] w fun e w' => e = .returned (.float .f64 (sv 9)) ∧ Below w.heap.size w w' := by
  go_enter Tryd.func36, Tryd.ntmps36
  go_wp2
  go_ret
  exact ⟨by rw [show sv 9 = 4607182418800017408 from by decide +kernel]; rfl, Below.refl _ _⟩
theorem impl10 (w : World) (hc : w.cell? ⟨2, 8, none⟩ = some (.float .f64 4607045579204271127)) : Calls Tryd.prog 36 #[.int .i64 10] w fun e w' => e = .returned (.float .f64 (sv 10)) ∧ Below w.heap.size w w' := by
  go_enter Tryd.func36, Tryd.ntmps36
  go_wp2
  go_ret
  exact ⟨by rw [show sv 10 = 4607045579204271127 from by decide +kernel]; rfl, Below.refl _ _⟩
theorem impl11 (w : World) (hc : w.cell? ⟨2, 7, none⟩ = some (.float .f64 4606639218218904859)) : Calls Tryd.prog 36 #[.int .i64 11] w fun e w' => e = .returned (.float .f64 (sv 11)) ∧ Below w.heap.size w w' := by
  go_enter Tryd.func36, Tryd.ntmps36
  go_wp2
  go_ret
  exact ⟨by rw [show sv 11 = 4606639218218904859 from by decide +kernel]; rfl, Below.refl _ _⟩
theorem impl12 (w : World) (hc : w.cell? ⟨2, 6, none⟩ = some (.float .f64 4605975682916830378)) : Calls Tryd.prog 36 #[.int .i64 12] w fun e w' => e = .returned (.float .f64 (sv 12)) ∧ Below w.heap.size w w' := by
  go_enter Tryd.func36, Tryd.ntmps36
  go_wp2
  go_ret
  exact ⟨by rw [show sv 12 = 4605975682916830378 from by decide +kernel]; rfl, Below.refl _ _⟩
theorem impl13 (w : World) (hc : w.cell? ⟨2, 5, none⟩ = some (.float .f64 4605075134482436153)) : Calls Tryd.prog 36 #[.int .i64 13] w fun e w' => e = .returned (.float .f64 (sv 13)) ∧ Below w.heap.size w w' := by
  go_enter Tryd.func36, Tryd.ntmps36
  go_wp2
  go_ret
  exact ⟨by rw [show sv 13 = 4605075134482436153 from by decide +kernel]; rfl, Below.refl _ _⟩
theorem impl14 (w : World) (hc : w.cell? ⟨2, 4, none⟩ = some (.float .f64 4603964935624201756)) : Calls Tryd.prog 36 #[.int .i64 14] w fun e w' => e = .returned (.float .f64 (sv 14)) ∧ Below w.heap.size w w' := by
  go_enter Tryd.func36, Tryd.ntmps36
  go_wp2
  go_ret
  exact ⟨by rw [show sv 14 = 4603964935624201756 from by decide +kernel]; rfl, Below.refl _ _⟩
theorem impl15 (w : World) (hc : w.cell? ⟨2, 3, none⟩ = some (.float .f64 4602678819172646912)) : Calls Tryd.prog 36 #[.int .i64 15] w fun e w' => e = .returned (.float .f64 (sv 15)) ∧ Below w.heap.size w w' := by
  go_enter Tryd.func36, Tryd.ntmps36
  go_wp2
  go_ret
  exact ⟨by rw [show sv 15 = 4602678819172646912 from by decide +kernel]; rfl, Below.refl _ _⟩
theorem impl16 (w : World) (hc : w.cell? ⟨2, 2, none⟩ = some (.float .f64 4599832907078044661)) : Calls Tryd.prog 36 #[.int .i64 16] w fun e w' => e = .returned (.float .f64 (sv 16)) ∧ Below w.heap.size w w' := by
  go_enter Tryd.func36, Tryd.ntmps36
  go_wp2
  go_ret
  exact ⟨by rw [show sv 16 = 4599832907078044661 from by decide +kernel]; rfl, Below.refl _ _⟩
theorem impl17 (w : World) (hc : w.cell? ⟨2, 1, none⟩ = some (.float .f64 4595424355236410249)) : Calls Tryd.prog 36 #[.int .i64 17] w fun e w' => e = .returned (.float .f64 (sv 17)) ∧ Below w.heap.size w w' := by
  go_enter Tryd.func36, Tryd.ntmps36
  go_wp2
  go_ret
  exact ⟨by rw [show sv 17 = 4595424355236410249 from by decide +kernel]; rfl, Below.refl _ _⟩
theorem impl18 (w : World) (hc : w.cell? ⟨2, 0, none⟩ = some (.float .f64 0)) : Calls Tryd.prog 36 #[.int .i64 18] w fun e w' => e = .returned (.float .f64 (sv 18)) ∧ Below w.heap.size w w' := by
  go_enter Tryd.func36, Tryd.ntmps36
  go_wp2
  go_ret
  exact ⟨by rw [show sv 18 = 0 from by decide +kernel]; rfl, Below.refl _ _⟩
theorem impl19 (w : World) (hc : w.cell? ⟨2, 1, none⟩ = some (.float .f64 4595424355236410249)) : Calls Tryd.prog 36 #[.int .i64 19] w fun e w' => e = .returned (.float .f64 (sv 19)) ∧ Below w.heap.size w w' := by
  go_enter Tryd.func36, Tryd.ntmps36
  go_wp2_with (refine wpList_fop rfl rfl (by decide) rfl rfl ?_; intro r n hr hl; have hr' := Lib.hid hr; clear hr hl)
  go_ret
  have e := r_sv (j := 19) (by decide) (by decide) (hr'.out.trans (by decide +kernel))
  exact ⟨by rw [← e]; rfl, draws (Below.refl _ _) _⟩
theorem impl20 (w : World) (hc : w.cell? ⟨2, 2, none⟩ = some (.float .f64 4599832907078044661)) : Calls Tryd.prog 36 #[.int .i64 20] w fun e w' => e = .returned (.float .f64 (sv 20)) ∧ Below w.heap.size w w' := by
  go_enter Tryd.func36, Tryd.ntmps36
  go_wp2_with (refine wpList_fop rfl rfl (by decide) rfl rfl ?_; intro r n hr hl; have hr' := Lib.hid hr; clear hr hl)
  go_ret
  have e := r_sv (j := 20) (by decide) (by decide) (hr'.out.trans (by decide +kernel))
  exact ⟨by rw [← e]; rfl, draws (Below.refl _ _) _⟩
theorem impl21 (w : World) (hc : w.cell? ⟨2, 3, none⟩ = some (.float .f64 4602678819172646912)) : Calls Tryd.prog 36 #[.int .i64 21] w fun e w' => e = .returned (.float .f64 (sv 21)) ∧ Below w.heap.size w w' := by
  go_enter Tryd.func36, Tryd.ntmps36
  go_wp2_with (refine wpList_fop rfl rfl (by decide) rfl rfl ?_; intro r n hr hl; have hr' := Lib.hid hr; clear hr hl)
  go_ret
  have e := r_sv (j := 21) (by decide) (by decide) (hr'.out.trans (by decide +kernel))
  exact ⟨by rw [← e]; rfl, draws (Below.refl _ _) _⟩
theorem impl22 (w : World) (hc : w.cell? ⟨2, 4, none⟩ = some (.float .f64 4603964935624201756)) : Calls Tryd.prog 36 #[.int .i64 22] w fun e w' => e = .returned (.float .f64 (sv 22)) ∧ Below w.heap.size w w' := by
  go_enter Tryd.func36, Tryd.ntmps36
  go_wp2_with (refine wpList_fop rfl rfl (by decide) rfl rfl ?_; intro r n hr hl; have hr' := Lib.hid hr; clear hr hl)
  go_ret
  have e := r_sv (j := 22) (by decide) (by decide) (hr'.out.trans (by decide +kernel))
  exact ⟨by rw [← e]; rfl, draws (Below.refl _ _) _⟩
theorem impl23 (w : World) (hc : w.cell? ⟨2, 5, none⟩ = some (.float .f64 4605075134482436153)) : Calls Tryd.prog 36 #[.int .i64 23] w fun e w' => e = .returned (.float .f64 (sv 23)) ∧ Below w.heap.size w w' := by
  go_enter Tryd.func36, Tryd.ntmps36
  go_wp2_with (refine wpList_fop rfl rfl (by decide) rfl rfl ?_; intro r n hr hl; have hr' := Lib.hid hr; clear hr hl)
  go_ret
  have e := r_sv (j := 23) (by decide) (by decide) (hr'.out.trans (by decide +kernel))
  exact ⟨by rw [← e]; rfl, draws (Below.refl _ _) _⟩
theorem impl24 (w : World) (hc : w.cell? ⟨2, 6, none⟩ = some (.float .f64 4605975682916830378)) : Calls Tryd.prog 36 #[.int .i64 24] w fun e w' => e = .returned (.float .f64 (sv 24)) ∧ Below w.heap.size w w' := by
  go_enter Tryd.func36, Tryd.ntmps36
  go_wp2_with (refine wpList_fop rfl rfl (by decide) rfl rfl ?_; intro r n hr hl; have hr' := Lib.hid hr; clear hr hl)
  go_ret
  have e := r_sv (j := 24) (by decide) (by decide) (hr'.out.trans (by decide +kernel))
  exact ⟨by rw [← e]; rfl, draws (Below.refl _ _) _⟩
theorem impl25 (w : World) (hc : w.cell? ⟨2, 7, none⟩ = some (.float .f64 4606639218218904859)) : Calls Tryd.prog 36 #[.int .i64 25] w fun e w' => e = .returned (.float .f64 (sv 25)) ∧ Below w.heap.size w w' := by
  go_enter Tryd.func36, Tryd.ntmps36
  go_wp2_with (refine wpList_fop rfl rfl (by decide) rfl rfl ?_; intro r n hr hl; have hr' := Lib.hid hr; clear hr hl)
  go_ret
  have e := r_sv (j := 25) (by decide) (by decide) (hr'.out.trans (by decide +kernel))
  exact ⟨by rw [← e]; rfl, draws (Below.refl _ _) _⟩
theorem impl26 (w : World) (hc : w.cell? ⟨2, 8, none⟩ = some (.float .f64 4607045579204271127)) : Calls Tryd.prog 36 #[.int .i64 26] w fun e w' => e = .returned (.float .f64 (sv 26)) ∧ Below w.heap.size w w' := by
  go_enter Tryd.func36, Tryd.ntmps36
  go_wp2_with (refine wpList_fop rfl rfl (by decide) rfl rfl ?_; intro r n hr hl; have hr' := Lib.hid hr; clear hr hl)
  go_ret
  have e := r_sv (j := 26) (by decide) (by decide) (hr'.out.trans (by decide +kernel))
  exact ⟨by rw [← e]; rfl, draws (Below.refl _ _) _⟩
theorem impl27 (w : World) (hc : w.cell? ⟨2, 9, none⟩ = some (.float .f64 4607182418800017408)) : Calls Tryd.prog 36 #[.int .i64 27] w fun e w' => e = .returned (.float .f64 (sv 27)) ∧ Below w.heap.size w w' := by
  go_enter Tryd.func36, Tryd.ntmps36
  go_wp2_with (refine wpList_fop rfl rfl (by decide) rfl rfl ?_; intro r n hr hl; have hr' := Lib.hid hr; clear hr hl)
  go_ret
  have e := r_sv (j := 27) (by decide) (by decide) (hr'.out.trans (by decide +kernel))
  exact ⟨by rw [← e]; rfl, draws (Below.refl _ _) _⟩
theorem impl28 (w : World) (hc : w.cell? ⟨2, 8, none⟩ = some (.float .f64 4607045579204271127)) : Calls Tryd.prog 36 #[.int .i64 28] w fun e w' => e = .returned (.float .f64 (sv 28)) ∧ Below w.heap.size w w' := by
  go_enter Tryd.func36, Tryd.ntmps36
  go_wp2_with (refine wpList_fop rfl rfl (by decide) rfl rfl ?_; intro r n hr hl; have hr' := Lib.hid hr; clear hr hl)
  go_ret
  have e := r_sv (j := 28) (by decide) (by decide) (hr'.out.trans (by decide +kernel))
  exact ⟨by rw [← e]; rfl, draws (Below.refl _ _) _⟩
theorem impl29 (w : World) (hc : w.cell? ⟨2, 7, none⟩ = some (.float .f64 4606639218218904859)) : Calls Tryd.prog 36 #[.int .i64 29] w fun e w' => e = .returned (.float .f64 (sv 29)) ∧ Below w.heap.size w w' := by
  go_enter Tryd.func36, Tryd.ntmps36
  go_wp2_with (refine wpList_fop rfl rfl (by decide) rfl rfl ?_; intro r n hr hl; have hr' := Lib.hid hr; clear hr hl)
  go_ret
  have e := r_sv (j := 29) (by decide) (by decide) (hr'.out.trans (by decide +kernel))
  exact ⟨by rw [← e]; rfl, draws (Below.refl _ _) _⟩
theorem impl30 (w : World) (hc : w.cell? ⟨2, 6, none⟩ = some (.float .f64 4605975682916830378)) : Calls Tryd.prog 36 #[.int .i64 30] w fun e w' => e = .returned (.float .f64 (sv 30)) ∧ Below w.heap.size w w' := by
  go_enter Tryd.func36, Tryd.ntmps36
  go_wp2_with (refine wpList_fop rfl rfl (by decide) rfl rfl ?_; intro r n hr hl; have hr' := Lib.hid hr; clear hr hl)
  go_ret
  have e := r_sv (j := 30) (by decide) (by decide) (hr'.out.trans (by decide +kernel))
  exact ⟨by rw [← e]; rfl, draws (Below.refl _ _) _⟩
theorem impl31 (w : World) (hc : w.cell? ⟨2, 5, none⟩ = some (.float .f64 4605075134482436153)) : Calls Tryd.prog 36 #[.int .i64 31] w fun e w' => e = .returned (.float .f64 (sv 31)) ∧ Below w.heap.size w w' := by
  go_enter Tryd.func36, Tryd.ntmps36
  go_wp2_with (refine wpList_fop rfl rfl (by decide) rfl rfl ?_; intro r n hr hl; have hr' := Lib.hid hr; clear hr hl)
  go_ret
  have e := r_sv (j := 31) (by decide) (by decide) (hr'.out.trans (by decide +kernel))
  exact ⟨by rw [← e]; rfl, draws (Below.refl _ _) _⟩
theorem impl32 (w : World) (hc : w.cell? ⟨2, 4, none⟩ = some (.float .f64 4603964935624201756)) : Calls Tryd.prog 36 #[.int .i64 32] w fun e w' => e = .returned (.float .f64 (sv 32)) ∧ Below w.heap.size w w' := by
  go_enter Tryd.func36, Tryd.ntmps36
  go_wp2_with (refine wpList_fop rfl rfl (by decide) rfl rfl ?_; intro r n hr hl; have hr' := Lib.hid hr; clear hr hl)
  go_ret
  have e := r_sv (j := 32) (by decide) (by decide) (hr'.out.trans (by decide +kernel))
  exact ⟨by rw [← e]; rfl, draws (Below.refl _ _) _⟩
theorem impl33 (w : World) (hc : w.cell? ⟨2, 3, none⟩ = some (.float .f64 4602678819172646912)) : Calls Tryd.prog 36 #[.int .i64 33] w fun e w' => e = .returned (.float .f64 (sv 33)) ∧ Below w.heap.size w w' := by
  go_enter Tryd.func36, Tryd.ntmps36
  go_wp2_with (refine wpList_fop rfl rfl (by decide) rfl rfl ?_; intro r n hr hl; have hr' := Lib.hid hr; clear hr hl)
  go_ret
  have e := r_sv (j := 33) (by decide) (by decide) (hr'.out.trans (by decide +kernel))
  exact ⟨by rw [← e]; rfl, draws (Below.refl _ _) _⟩
theorem impl34 (w : World) (hc : w.cell? ⟨2, 2, none⟩ = some (.float .f64 4599832907078044661)) : Calls Tryd.prog 36 #[.int .i64 34] w fun e w' => e = .returned (.float .f64 (sv 34)) ∧ Below w.heap.size w w' := by
  go_enter Tryd.func36, Tryd.ntmps36
  go_wp2_with (refine wpList_fop rfl rfl (by decide) rfl rfl ?_; intro r n hr hl; have hr' := Lib.hid hr; clear hr hl)
  go_ret
  have e := r_sv (j := 34) (by decide) (by decide) (hr'.out.trans (by decide +kernel))
  exact ⟨by rw [← e]; rfl, draws (Below.refl _ _) _⟩
theorem impl35 (w : World) (hc : w.cell? ⟨2, 1, none⟩ = some (.float .f64 4595424355236410249)) : Calls Tryd.prog 36 #[.int .i64 35] w fun e w' => e = .returned (.float .f64 (sv 35)) ∧ Below w.heap.size w w' := by
  go_enter Tryd.func36, Tryd.ntmps36
  go_wp2_with (refine wpList_fop rfl rfl (by decide) rfl rfl ?_; intro r n hr hl; have hr' := Lib.hid hr; clear hr hl)
  go_ret
  have e := r_sv (j := 35) (by decide) (by decide) (hr'.out.trans (by decide +kernel))
  exact ⟨by rw [← e]; rfl, draws (Below.refl _ _) _⟩
def Sines (w : World) : Prop := ∀ i : Int, 0 ≤ i → i < (sines.length : Int) → w.cell? ⟨2, i.toNat, none⟩ = some (.float .f64 (sines.getD i.toNat 0))
theorem Sines.below {w w' : World} (h : Sines w) (hb : Below w.heap.size w w') : Sines w' := fun i h0 h1 => (hb.cell (World.block_lt_of_cell? w _ (h i h0 h1))).trans (h i h0 h1)
theorem implSine_any (j : Int) (h0 : 0 ≤ j) (h1 : j < 36) (w : World) (hS : Sines w) : Calls Tryd.prog 36 #[.int .i64 j] w fun e w' => e = .returned (.float .f64 (sv j)) ∧ Below w.heap.size w w' := by
  have : j = 0 ∨ j = 1 ∨ j = 2 ∨ j = 3 ∨ j = 4 ∨ j = 5 ∨ j = 6 ∨ j = 7 ∨ j = 8 ∨ j = 9 ∨ j = 10 ∨ j = 11 ∨ j = 12 ∨ j = 13 ∨ j = 14 ∨ j = 15 ∨ j = 16 ∨ j = 17 ∨ j = 18 ∨ j = 19 ∨ j = 20 ∨ j = 21 ∨ j = 22 ∨ j = 23 ∨ j = 24 ∨ j = 25 ∨ j = 26 ∨ j = 27 ∨ j = 28 ∨ j = 29 ∨ j = 30 ∨ j = 31 ∨ j = 32 ∨ j = 33 ∨ j = 34 ∨ j = 35 := by omega
  clear h0 h1
  rcases this with rfl | rfl | rfl | rfl | rfl | rfl | rfl | rfl | rfl | rfl | rfl | rfl | rfl | rfl | rfl | rfl | rfl | rfl | rfl | rfl | rfl | rfl | rfl | rfl | rfl | rfl | rfl | rfl | rfl | rfl | rfl | rfl | rfl | rfl | rfl | rfl
  · exact impl0 w (hS 0 (by decide) (by decide))
  · exact impl1 w (hS 1 (by decide) (by decide))
  · exact impl2 w (hS 2 (by decide) (by decide))
  · exact impl3 w (hS 3 (by decide) (by decide))
  · exact impl4 w (hS 4 (by decide) (by decide))
  · exact impl5 w (hS 5 (by decide) (by decide))
  · exact impl6 w (hS 6 (by decide) (by decide))
  · exact impl7 w (hS 7 (by decide) (by decide))
  · exact impl8 w (hS 8 (by decide) (by decide))
  · exact impl9 w (hS 9 (by decide) (by decide))
  · exact impl10 w (hS 8 (by decide) (by decide))
  · exact impl11 w (hS 7 (by decide) (by decide))
  · exact impl12 w (hS 6 (by decide) (by decide))
  · exact impl13 w (hS 5 (by decide) (by decide))
  · exact impl14 w (hS 4 (by decide) (by decide))
  · exact impl15 w (hS 3 (by decide) (by decide))
  · exact impl16 w (hS 2 (by decide) (by decide))
  · exact impl17 w (hS 1 (by decide) (by decide))
  · exact impl18 w (hS 0 (by decide) (by decide))
  · exact impl19 w (hS 1 (by decide) (by decide))
  · exact impl20 w (hS 2 (by decide) (by decide))
  · exact impl21 w (hS 3 (by decide) (by decide))
  · exact impl22 w (hS 4 (by decide) (by decide))
  · exact impl23 w (hS 5 (by decide) (by decide))
  · exact impl24 w (hS 6 (by decide) (by decide))
  · exact impl25 w (hS 7 (by decide) (by decide))
  · exact impl26 w (hS 8 (by decide) (by decide))
  · exact impl27 w (hS 9 (by decide) (by decide))
  · exact impl28 w (hS 8 (by decide) (by decide))
  · exact impl29 w (hS 7 (by decide) (by decide))
  · exact impl30 w (hS 6 (by decide) (by decide))
  · exact impl31 w (hS 5 (by decide) (by decide))
  · exact impl32 w (hS 4 (by decide) (by decide))
  · exact impl33 w (hS 3 (by decide) (by decide))
  · exact impl34 w (hS 2 (by decide) (by decide))
  · exact impl35 w (hS 1 (by decide) (by decide))
end Go.Proofs.YtbgacfjocjcffabDoor.Dt
