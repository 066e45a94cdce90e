/-
  Contracts of WindPair (both sides); the law of WindPair.
  Conditions: the table of sines stands as laid; the speed's bits lie under 2^64.
-/
import Derived.Test.YtbgacfjocjcffabDoorDw
namespace Go.Proofs.YtbgacfjocjcffabDoor.Dx
open Go Go.RowKit Go.Proofs.YtbgacfjocjcffabDoor.Fk Go.Proofs.YtbgacfjocjcffabDoor.Qs Go.Proofs.YtbgacfjocjcffabDoor.Fw Go.Proofs.YtbgacfjocjcffabDoor.Fc Go.Proofs.YtbgacfjocjcffabDoor.Fp Go.Proofs.YtbgacfjocjcffabDoor.Fm Go.Proofs.YtbgacfjocjcffabDoor.Dk Go.Proofs.YtbgacfjocjcffabDoor.Dt Go.Proofs.YtbgacfjocjcffabDoor.Du Go.Proofs.YtbgacfjocjcffabDoor.Dw
attribute [local go_sem] Fp.run_store_float Fp.drewN_setCell Fp.drewN_alloc

def wR (k : Int) (s : Nat) : Option Nat := if wkB k s then fop .sub (some 0) (fop .mul (can s) (can (sv (k % 36)))) else none
def wI (k : Int) (s : Nat) : Option Nat := if wkB k s then fop .sub (some 0) (fop .mul (can s) (can (sv ((k % 36 + 9) % 36)))) else none
theorem wcel_cell {w : World} {g : Nat} {a : Int} {b : Nat} {t : TypeId} (h : w.heap[g]? = some (wcel a b t)) (i : Nat) : w.cell? ⟨g, i, none⟩ = (#[Value.int .i64 a, Value.float .f64 b] : Array Value)[i]? := by
  simp [World.cell?, h]
theorem wcel_frozen {w : World} {g : Nat} {a : Int} {b : Nat} {t : TypeId} (h : w.heap[g]? = some (wcel a b t)) (i : Nat) : w.frozen? ⟨g, i, none⟩ = false := by
  simp [World.frozen?, h]

theorem below2 {w w' : World} {A B : Obj} (hb : Below ((w.alloc A).alloc B).heap.size ((w.alloc A).alloc B) w') : Below w.heap.size w w' := (Joins.below_alloc2 w A B).trans (hb.mono (Joins.below_alloc2 w A B).size)

set_option maxHeartbeats 4000000 in
theorem specWP_any (k : Int) (s : Nat) (w : World) : Calls Tryd.prog 11 #[wd k s] w fun e w' => ∃ r r', e = .returned (pr r r') ∧ can r = wR k s ∧ can r' = wI k s ∧ Below w.heap.size w w' := by
  have hu30 := Tryd.underlying30
  have hu28 := Tryd.underlying28
  unfold wR wI
  have S1 := specTurn_any k
  unfold tr at S1
  generalize sv ((k % 36 + 9) % 36) = v at S1 ⊢
  generalize sv (k % 36) = u at S1 ⊢
  replace S1 := Lib.hid S1
  cases hw : wkB k s
  · go_enter Tryd.func11, Tryd.ntmps11
    go_wp2_with (first
      | (go_at_call 30; refine (specWindOk_any _ _ _).mono ?_; rintro e w1 ⟨rfl, hb⟩; have R1 := Lib.hid (keep_row (row_alloc (heap_alloc_new w (wcel k s 30))) hb); have R2 := Lib.hid (keep_row (heap_alloc2_new w (wcel k s 30) (cells2 0 0 28)) hb); have HB := Lib.hid (below2 hb); clear hb; have c0 := wcel_cell R1.out 0; have c1 := wcel_cell R1.out 1; have d0 := row_cell R2.out 0; have d1 := row_cell R2.out 1; have f0 := row_frozen R2.out 0; have f1 := row_frozen R2.out 1; have l1 := row_lt R1.out; have l2 := row_lt R2.out)
      | (go_at_call 31; refine (Fv.l1None_any _).mono ?_; rintro e w' ⟨r, n, rfl, rfl, hr, hl⟩; have hr' := Lib.hid hr; clear hr hl))
    rename_i ra na ha
    refine bodyPost_ret (results_cell_row rfl _ _ (w.heap.size + 1) 28 #[.float .f64 ra, .float .f64 r] (0, 0) _ rfl (row_put2 R2.out) Tryd.underlying28 rfl (by kernel_rfl)) rfl ?_
    exact ⟨_, _, rfl, ha.out, hr'.out, bset2 (draws HB.out _) (Nat.le_succ _) _ _⟩
  · go_enter Tryd.func11, Tryd.ntmps11
    go_wp2_with (first
      | (go_at_call 30; refine (specWindOk_any _ _ _).mono ?_; rintro e w1 ⟨rfl, hb⟩; have R1 := Lib.hid (keep_row (row_alloc (heap_alloc_new w (wcel k s 30))) hb); have R2 := Lib.hid (keep_row (heap_alloc2_new w (wcel k s 30) (cells2 0 0 28)) hb); have HB := Lib.hid (below2 hb); clear hb; have c0 := wcel_cell R1.out 0; have c1 := wcel_cell R1.out 1; have d0 := row_cell R2.out 0; have d1 := row_cell R2.out 1; have f0 := row_frozen R2.out 0; have f1 := row_frozen R2.out 1; have l1 := row_lt R1.out; have l2 := row_lt R2.out)
      | (go_at_call 15; refine (S1.out _).mono ?_; rintro e w2 ⟨rfl, hb⟩; replace R1 := Lib.hid (keep_row R1.out hb); replace R2 := Lib.hid (keep_row R2.out hb); replace HB := Lib.hid (Fp.step HB.out hb); clear hb c0 c1 d0 d1 f0 f1 l1 l2; have c0 := wcel_cell R1.out 0; have c1 := wcel_cell R1.out 1; have d0 := row_cell R2.out 0; have d1 := row_cell R2.out 1; have f0 := row_frozen R2.out 0; have f1 := row_frozen R2.out 1; have l1 := row_lt R1.out; have l2 := row_lt R2.out)
      | (refine wpList_fop rfl rfl (by decide) rfl rfl ?_; intro r n hr hl; have hr' := Lib.hid hr; clear hr))
    rename_i p n0 l0 hp q n1 l1' hq p2 n2 l2' hp2
    refine bodyPost_ret (results_cell_row rfl _ _ (w.heap.size + 1) 28 #[.float .f64 q, .float .f64 r] (0, 0) _ rfl (row_alloc (row_put2 R2.out)) Tryd.underlying28 rfl (by kernel_rfl)) rfl ?_
    exact ⟨_, _, rfl, by rw [hq.out, hp.out]; rfl, by rw [hr'.out, hp2.out]; rfl, draws (balloc (bset2 HB.out (Nat.le_succ _) _ _) _) _⟩

set_option maxHeartbeats 4000000 in
theorem implWP_any (k : Int) (s : Nat) (hs : Hid (s < 18446744073709551616)) (w : World) (hS : Sines w) : Calls Tryd.prog 13 #[wd k s] w fun e w' => ∃ r r', e = .returned (pr r r') ∧ can r = wR k s ∧ can r' = wI k s ∧ Below w.heap.size w w' := by
  have hu30 := Tryd.underlying30
  have hu28 := Tryd.underlying28
  unfold wR wI
  have HS := Lib.hid hS
  clear hS
  have S1 := implTurn_any k
  unfold tr at S1
  generalize sv ((k % 36 + 9) % 36) = v at S1 ⊢
  generalize sv (k % 36) = u at S1 ⊢
  replace S1 := Lib.hid S1
  cases hw : wkB k s
  · go_enter Tryd.func13, Tryd.ntmps13
    go_wp2_with (first
      | (go_at_call 32; refine (implWindOk_any _ _ hs _).mono ?_; rintro e w1 ⟨rfl, hb⟩; have R1 := Lib.hid (keep_row (row_alloc (heap_alloc_new w (wcel k s 30))) hb); have R2 := Lib.hid (keep_row (heap_alloc2_new w (wcel k s 30) (cells2 0 0 28)) hb); have HB := Lib.hid (below2 hb); clear hb; have c0 := wcel_cell R1.out 0; have c1 := wcel_cell R1.out 1; have d0 := row_cell R2.out 0; have d1 := row_cell R2.out 1; have f0 := row_frozen R2.out 0; have f1 := row_frozen R2.out 1; have l1 := row_lt R1.out; have l2 := row_lt R2.out)
      | (go_at_call 33; refine (Fv.nan_any _).mono ?_; rintro e w' ⟨rfl, rfl⟩))
    refine bodyPost_ret (results_cell_row rfl _ _ (w.heap.size + 1) 28 #[.float .f64 9221120237041090561, .float .f64 9221120237041090561] (0, 0) _ rfl (row_put2 R2.out) Tryd.underlying28 rfl (by kernel_rfl)) rfl ?_
    exact ⟨_, _, rfl, Fv.can_qnan, Fv.can_qnan, bset2 HB.out (Nat.le_succ _) _ _⟩
  · go_enter Tryd.func13, Tryd.ntmps13
    go_wp2_with (first
      | (go_at_call 32; refine (implWindOk_any _ _ hs _).mono ?_; rintro e w1 ⟨rfl, hb⟩; have R1 := Lib.hid (keep_row (row_alloc (heap_alloc_new w (wcel k s 30))) hb); have R2 := Lib.hid (keep_row (heap_alloc2_new w (wcel k s 30) (cells2 0 0 28)) hb); have HB := Lib.hid (below2 hb); clear hb; have c0 := wcel_cell R1.out 0; have c1 := wcel_cell R1.out 1; have d0 := row_cell R2.out 0; have d1 := row_cell R2.out 1; have f0 := row_frozen R2.out 0; have f1 := row_frozen R2.out 1; have l1 := row_lt R1.out; have l2 := row_lt R2.out)
      | (go_at_call 16; refine (S1.out _ ?hs).mono ?_; (case hs => exact HS.out.below HB.out); rintro e w2 ⟨rfl, hb⟩; replace R1 := Lib.hid (keep_row R1.out hb); replace R2 := Lib.hid (keep_row R2.out hb); replace HB := Lib.hid (Fp.step HB.out hb); clear hb c0 c1 d0 d1 f0 f1 l1 l2; have c0 := wcel_cell R1.out 0; have c1 := wcel_cell R1.out 1; have d0 := row_cell R2.out 0; have d1 := row_cell R2.out 1; have f0 := row_frozen R2.out 0; have f1 := row_frozen R2.out 1; have l1 := row_lt R1.out; have l2 := row_lt R2.out)
      | (refine wpList_fop rfl rfl (by decide) rfl rfl ?_; intro r n hr hl; have hr' := Lib.hid hr; clear hr))
    rename_i p n0 l0 hp q n1 l1' hq p2 n2 l2' hp2
    refine bodyPost_ret (results_cell_row rfl _ _ (w.heap.size + 1) 28 #[.float .f64 q, .float .f64 r] (0, 0) _ rfl (row_alloc (row_put2 R2.out)) Tryd.underlying28 rfl (by kernel_rfl)) rfl ?_
    exact ⟨_, _, rfl, by rw [hq.out, hp.out]; rfl, by rw [hr'.out, hp2.out]; rfl, draws (balloc (bset2 HB.out (Nat.le_succ _) _ _) _) _⟩

theorem toWind_any (k : Int) (s : Nat) (w : World) : Calls Tryd.prog 12 #[wd k s] w fun e w' => e = .returned (wd k s) ∧ Below w.heap.size w w' := by
  go_enter Tryd.func12, Tryd.ntmps12
  go_wp2
  refine bodyPost_ret (results_cell_row rfl _ _ (w.heap.size + 1) 30 #[.int .i64 k, .float .f64 s] (0, 0) _ rfl (heap_alloc3_mid _ _ _ _) Tryd.underlying30 rfl (by kernel_rfl)) rfl ?_
  exact ⟨rfl, Joins.below_alloc3 _ _ _ _⟩

set_option maxHeartbeats 4000000 in
theorem law (k : Int) (s : Nat) (hs : s < 18446744073709551616) (w : World) (hS : Sines w) : Calls Tryd.prog 4 #[wd k s] w fun e w' => e = .returned (.bool true) ∧ Below w.heap.size w w' := by
  have HS := Lib.hid hS
  have HL := Lib.hid hs
  have hu30 := Tryd.underlying30
  have hu26 := Tryd.underlying26
  clear hS hs
  go_enter Tryd.func4, Tryd.ntmps4
  go_wp2_with (first
    | (go_at_call 12; have z := K2f; clear z; refine (toWind_any _ _ _).mono ?_; rintro e w3 ⟨rfl, hb⟩; replace HB := Lib.hid (Fp.step (balloc HB.out _) hb); have K2 := Lib.hid (keep_row K2f.out hb); clear hb c0 c1 l1 K2f)
    | (go_at_call 12; refine (toWind_any _ _ _).mono ?_; rintro e w1 ⟨rfl, hb⟩; have R1 := Lib.hid (keep_row (heap_alloc_new w (wcel k s 26)) hb); have HB := Lib.hid (Fp.step (balloc (Below.refl w.heap.size w) _) hb); clear hb)
    | (go_at_call 11; refine (specWP_any _ _ _).mono ?_; rintro e w2 ⟨r, r', rfl, hr, hi, hb⟩; replace R1 := Lib.hid (keep_row R1.out hb); replace HB := Lib.hid (Fp.step HB.out hb); have K2f := Lib.hid (heap_alloc_new w2 (cells2 r r' 28)); have Hr := Lib.hid hr; have Hi := Lib.hid hi; clear hb hr hi; have c0 := wcel_cell R1.out 0; have c1 := wcel_cell R1.out 1; have l1 := row_lt R1.out)
    | (go_at_call 13; refine (implWP_any _ _ HL _ ?hs).mono ?_; (case hs => exact HS.out.below HB.out); rintro e w4 ⟨q, q', rfl, hr, hi, hb⟩; replace K2 := Lib.hid (keep_row K2.out hb); replace HB := Lib.hid (Fp.step HB.out hb); have E1 := Lib.hid (hr.trans Hr.out.symm); have E2 := Lib.hid (hi.trans Hi.out.symm); clear hb hr hi; have c0 := row_cell K2.out 0; have c1 := row_cell K2.out 1; have l1 := row_lt K2.out)
    | (go_at_call 14; refine (eqPair_of _ _ _ _ E1.out E2.out _).mono ?_; rintro e w' ⟨rfl, hb⟩; replace HB := Lib.hid (Fp.step (balloc HB.out _) hb); clear hb))
  go_ret
  exact ⟨rfl, HB.out⟩
end Go.Proofs.YtbgacfjocjcffabDoor.Dx
