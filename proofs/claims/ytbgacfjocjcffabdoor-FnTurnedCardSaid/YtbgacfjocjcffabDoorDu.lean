/-
  Contracts of Turn (both sides); the law of Turn.
  Conditions: the table of sines stands as laid.
-/
import Derived.Test.YtbgacfjocjcffabDoorFm
import Derived.Test.YtbgacfjocjcffabDoorDt
namespace Go.Proofs.YtbgacfjocjcffabDoor.Du
open Go Go.RowKit Go.Proofs.YtbgacfjocjcffabDoor.Fk Go.Proofs.YtbgacfjocjcffabDoor.Fc Go.Proofs.YtbgacfjocjcffabDoor.Fp Go.Proofs.YtbgacfjocjcffabDoor.Fm Go.Proofs.YtbgacfjocjcffabDoor.Dk Go.Proofs.YtbgacfjocjcffabDoor.Dt
attribute [local go_sem] run_store_float drewN_setCell drewN_alloc

theorem tmod36 (k : Int) : k.tmod 36 = if 0 ≤ k then k % 36 else -((-k) % 36) := by
  split
  · rename_i h
    exact Int.tmod_eq_emod_of_nonneg h
  · rename_i h
    have h1 := Int.neg_tmod (-k) 36
    rw [Int.neg_neg] at h1
    rw [h1, Int.tmod_eq_emod_of_nonneg (show 0 ≤ -k by omega)]
theorem tm (k : Int) : (wrap64 (k.tmod 36 + 36)).tmod 36 = k % 36 := by
  have h := tmod36 k
  have h1 : wrap64 (k.tmod 36 + 36) = k.tmod 36 + 36 := by unfold wrap64; split at h <;> omega
  rw [h1, Int.tmod_eq_emod_of_nonneg (by split at h <;> omega)]
  split at h <;> omega
theorem tm9 (k : Int) : (wrap64 ((wrap64 (k.tmod 36 + 9)).tmod 36 + 36)).tmod 36 = (k % 36 + 9) % 36 := by
  rw [tm]
  have h := tmod36 k
  have h1 : wrap64 (k.tmod 36 + 9) = k.tmod 36 + 9 := by unfold wrap64; split at h <;> omega
  rw [h1]
  split at h <;> omega
theorem mod_any (k : Int) (w : World) : Calls Tryd.prog 35 #[.int .i64 k, .int .i64 36] w fun e w' => e = .returned (.int .i64 (k % 36)) ∧ w' = w := by
  have h := tm k
  go_enter Tryd.func35, Tryd.ntmps35
  go_wp2
  go_ret
  exact ⟨by first | rfl | (rw [← h]; rfl), rfl⟩
theorem mod_u (k m : Int) (hm : k % 36 = m) (w : World) : Calls Tryd.prog 35 #[.int .i64 k, .int .i64 36] w fun e w' => e = .returned (.int .i64 m) ∧ w' = w := by subst hm; exact mod_any k w
/-- The turn by k tens of degrees. -/
def tr (k : Int) : Value := pr (sv ((k % 36 + 9) % 36)) (sv (k % 36))
theorem row0 {w w' : World} (hb : Below (w.alloc (cells2 0 0 28)).heap.size (w.alloc (cells2 0 0 28)) w') : w'.heap[w.heap.size]? = some (cells2 0 0 28) := keep_row (heap_alloc_new w (cells2 0 0 28)) hb

theorem below0 {w w' : World} (hb : Below (w.alloc (cells2 0 0 28)).heap.size (w.alloc (cells2 0 0 28)) w') : Below w.heap.size w w' := ((Below.refl w.heap.size w).alloc (Nat.le_refl _) (cells2 0 0 28)).trans (hb.mono ((Below.refl w.heap.size w).alloc (Nat.le_refl _) (cells2 0 0 28)).size)

set_option maxHeartbeats 2000000 in
theorem implTurn_any (k : Int) (w : World) (hS : Sines w) : Calls Tryd.prog 16 #[.int .i64 k] w fun e w' => e = .returned (tr k) ∧ Below w.heap.size w w' := by
  unfold tr
  obtain ⟨m, hm⟩ : ∃ m, k % 36 = m := ⟨_, rfl⟩
  rw [hm]
  have m0 : 0 ≤ m := by omega
  have m1 : m < 36 := by omega
  obtain ⟨u, hu⟩ : ∃ u, sv m = u := ⟨_, rfl⟩
  obtain ⟨v, hv⟩ : ∃ v, sv ((m + 9) % 36) = v := ⟨_, rfl⟩
  rw [hu, hv]
  have S1 := implSine_any m m0 m1
  have S2 := implSine_any ((m + 9) % 36) (by omega) (by omega)
  rw [hu] at S1
  rw [hv] at S2
  replace S1 := Lib.hid S1
  replace S2 := Lib.hid S2
  have HM := Lib.hid hm
  have HS := Lib.hid hS
  clear hu hv hm hS
  go_enter Tryd.func16, Tryd.ntmps16
  go_wp2_with (first
    | (go_at_call 35; refine (mod_u _ _ HM.out _).mono ?_; rintro e w' ⟨rfl, rfl⟩)
    | (go_at_call 36; have z := HB; clear z; refine (S1.out _ ?hs).mono ?_; (case hs => exact HS.out.below HB.out); rintro e w2 ⟨rfl, hb⟩; replace HK := Lib.hid (keep_row HK.out hb); replace HB := Lib.hid (Fp.step HB.out hb); clear hb; have c0 := row_cell HK.out 0; have c1 := row_cell HK.out 1; have f0 := row_frozen HK.out 0; have f1 := row_frozen HK.out 1; have l0 := row_lt HK.out)
    | (go_at_call 36; refine (S2.out _ ?hs).mono ?_; (case hs => exact HS.out.below ((Below.refl w.heap.size w).alloc (Nat.le_refl _) _)); rintro e w1 ⟨rfl, hb⟩; have HK := Lib.hid (row0 hb); have HB := Lib.hid (below0 hb); clear hb))
  refine bodyPost_ret (results_cell_row rfl _ _ w.heap.size 28 #[.float .f64 v, .float .f64 u] (0, 0) _ rfl (row_put2 HK.out) Tryd.underlying28 rfl (by kernel_rfl)) rfl ?_
  exact ⟨rfl, bset2 HB.out (Nat.le_refl _) _ _⟩

set_option maxHeartbeats 2000000 in
theorem specTurn_any (k : Int) (w : World) : Calls Tryd.prog 15 #[.int .i64 k] w fun e w' => e = .returned (tr k) ∧ Below w.heap.size w w' := by
  unfold tr
  obtain ⟨m, hm⟩ : ∃ m, k % 36 = m := ⟨_, rfl⟩
  have t1 := tm k
  have t2 := tm9 k
  rw [hm] at t1 t2 ⊢
  have S1 := specSine_any k m t1 (by omega) (by omega)
  have S2 := specSine_any (wrap64 (k.tmod 36 + 9)) ((m + 9) % 36) t2 (by omega) (by omega)
  obtain ⟨u, hu⟩ : ∃ u, sv m = u := ⟨_, rfl⟩
  obtain ⟨v, hv⟩ : ∃ v, sv ((m + 9) % 36) = v := ⟨_, rfl⟩
  rw [hu] at S1 ⊢
  rw [hv] at S2 ⊢
  replace S1 := Lib.hid S1
  replace S2 := Lib.hid S2
  clear hu hv hm t1 t2
  go_enter Tryd.func15, Tryd.ntmps15
  go_wp2_with (first
    | (go_at_call 34; have z := HB; clear z; refine (S1.out _).mono ?_; rintro e w2 ⟨rfl, hb⟩; replace HK := Lib.hid (keep_row HK.out hb); replace HB := Lib.hid (Fp.step HB.out hb); clear hb; have c0 := row_cell HK.out 0; have c1 := row_cell HK.out 1; have f0 := row_frozen HK.out 0; have f1 := row_frozen HK.out 1; have l0 := row_lt HK.out)
    | (go_at_call 34; refine (S2.out _).mono ?_; rintro e w1 ⟨rfl, hb⟩; have HK := Lib.hid (row0 hb); have HB := Lib.hid (below0 hb); clear hb))
  refine bodyPost_ret (results_cell_row rfl _ _ w.heap.size 28 #[.float .f64 v, .float .f64 u] (0, 0) _ rfl (row_put2 HK.out) Tryd.underlying28 rfl (by kernel_rfl)) rfl ?_
  exact ⟨rfl, bset2 HB.out (Nat.le_refl _) _ _⟩

set_option maxHeartbeats 2000000 in
theorem law (k : Int) (w : World) (hS : Sines w) : Calls Tryd.prog 5 #[.int .i64 k] w fun e w' => e = .returned (.bool true) ∧ Below w.heap.size w w' := by
  have HS := Lib.hid hS
  clear hS
  have S1 := specTurn_any k
  have S2 := implTurn_any k
  unfold tr at S1 S2
  generalize sv ((k % 36 + 9) % 36) = v at S1 S2
  generalize sv (k % 36) = u at S1 S2
  replace S1 := Lib.hid S1
  replace S2 := Lib.hid S2
  go_enter Tryd.func5, Tryd.ntmps5
  go_wp2_with (first
    | (go_at_call 15; refine (S1.out _).mono ?_; rintro e w1 ⟨rfl, hb⟩; have HB := Lib.hid hb; clear hb)
    | (go_at_call 16; refine (S2.out _ ?hs).mono ?_; (case hs => exact HS.out.below (balloc HB.out _)); rintro e w2 ⟨rfl, hb⟩; have HK0 := Lib.hid (keep_row (heap_alloc_new _ (cells2 v u 28)) hb); replace HB := Lib.hid (Fp.step (balloc HB.out _) hb); clear hb; have c0 := row_cell HK0.out 0; have c1 := row_cell HK0.out 1; have f0 := row_frozen HK0.out 0; have f1 := row_frozen HK0.out 1; have l0 := row_lt HK0.out)
    | (go_at_call 14; refine (eqPair_of _ _ _ _ rfl rfl _).mono ?_; rintro e w' ⟨rfl, hb⟩; replace HB := Lib.hid (Fp.step (balloc HB.out _) hb); clear hb))
  go_ret
  exact ⟨rfl, HB.out⟩
end Go.Proofs.YtbgacfjocjcffabDoor.Du
