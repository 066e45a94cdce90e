/-
  Contracts of Analyse (both sides).
  Conditions: the table of sines stands as laid.
-/
import Derived.Test.YtbgacfjocjcffabDoorDx
import Derived.Test.YtbgacfjocjcffabDoorFl
import Derived.Test.YtbgacfjocjcffabDoorFn
import Derived.Laws.BitsLemmas
namespace Go.Proofs.YtbgacfjocjcffabDoor.Da
open Go Go.RowKit Go.Proofs.YtbgacfjocjcffabDoor.Fk Go.Proofs.YtbgacfjocjcffabDoor.Qs Go.Proofs.YtbgacfjocjcffabDoor.Fw Go.Proofs.YtbgacfjocjcffabDoor.Fc Go.Proofs.YtbgacfjocjcffabDoor.Fp Go.Proofs.YtbgacfjocjcffabDoor.Fm Go.Proofs.YtbgacfjocjcffabDoor.Fl Go.Proofs.YtbgacfjocjcffabDoor.Dt Go.Proofs.YtbgacfjocjcffabDoor.Du
open Go.Proofs.YtbgacfjocjcffabDoorW.PrintWords Go.Proofs.YtbgacfjocjcffabDoorW.PrintLast Go.Proofs.YtbgacfjocjcffabDoorW.PrintMore
set_option linter.unusedVariables false
set_option linter.unusedSimpArgs false
attribute [local go_sem] Fp.run_store_float Fp.drewN_setCell Fp.drewN_alloc

def an (l : List Nat) (v : Int) : Nat → Option Nat × Option Nat
  | 0 => (some 0, some 0)
  | i + 1 => (fop .add (an l v i).1 (fop .sub (fop .mul (can (l.getD i 0)) (can (sv ((-(v * (i : Int)) % 36 + 9) % 36)))) (fop .mul (some 0) (can (sv (-(v * (i : Int)) % 36))))), fop .add (an l v i).2 (fop .add (fop .mul (can (l.getD i 0)) (can (sv (-(v * (i : Int)) % 36)))) (fop .mul (some 0) (can (sv ((-(v * (i : Int)) % 36 + 9) % 36))))))
theorem keepA {w0 w1 w : World} {g : Nat} {r s : Nat} {p : Addr} {x : Value} (hb : Below w0.heap.size w0 w) (hk : w.heap[g]? = some (cells2 r s 28)) (h0 : w0.cell? p = some x) : Below w0.heap.size w0 w ∧ w.heap[g]? = some (cells2 r s 28) ∧ w.cell? ⟨g, 0, none⟩ = some (.float .f64 r) ∧ w.cell? ⟨g, 1, none⟩ = some (.float .f64 s) ∧ w.frozen? ⟨g, 0, none⟩ = false ∧ w.frozen? ⟨g, 1, none⟩ = false ∧ w.cell? p = some x :=
  ⟨hb, hk, row_cell hk 0, row_cell hk 1, row_frozen hk 0, row_frozen hk 1, (hb.cell (World.block_lt_of_cell? w0 _ h0)).trans h0⟩

theorem an_next {l : List Nat} {v x ky : Int} {r s m1 m2 a1 a2 vv uu : Nat} (p0 : 0 ≤ x) (hr : can r = (an l v x.toNat).1) (hs : can s = (an l v x.toNat).2) (hk : -(v * x) = ky) (hv : sv ((ky % 36 + 9) % 36) = vv) (hu : sv (ky % 36) = uu) (h1 : can m1 = mulR (rdOf 0 l x) 0 vv uu) (h2 : can m2 = mulS (rdOf 0 l x) 0 vv uu) (h3 : can a1 = addR r s m1 m2) (h4 : can a2 = addS r s m1 m2) : can a1 = (an l v (x + 1).toNat).1 ∧ can a2 = (an l v (x + 1).toNat).2 := by
  obtain ⟨n, rfl⟩ : ∃ n : Nat, x = n := ⟨x.toNat, by omega⟩
  have e : ((n : Int) + 1).toNat = n + 1 := by omega
  rw [Int.toNat_natCast] at hr hs
  rw [e, an, h3, h4, addR, addS, hr, hs, h1, h2, mulR, mulS, ← hv, ← hu, ← hk, can_zero]
  exact ⟨rfl, rfl⟩

theorem first_below {w u : World} (h : Below w.heap.size w u) : Below w.heap.size w u := h

set_option maxHeartbeats 8000000 in
theorem specAn_any (A0 : Option Addr) (c0 : Nat) (l0 : List Nat) (v : Int) (w : World) (hl : l0.length = 36) (hv : 1 ≤ v ∧ v ≤ 17) (hr0 : flt.C w A0 l0.length l0) : Calls Tryd.prog 17 #[.slice A0 36 c0, .int .i64 v] w fun e w' => ∃ r s, e = .returned (pr r s) ∧ can r = fop .quo (an l0 v 36).1 (can 4625759767262920704) ∧ can s = fop .quo (an l0 v 36).2 (can 4625759767262920704) ∧ Below w.heap.size w w' := by
  have HR0 := Aside0.mk hr0
  have HL := Aside0.mk hl
  have HV := Aside0.mk hv
  have hB : (decide (1 ≤ v) && decide (v ≤ 17)) = true := by rw [decide_eq_true hv.1, decide_eq_true hv.2]; rfl
  clear hr0 hl hv
  go_enter Tryd.func17, Tryd.ntmps17
  go_wp2_with (first | (go_at_call 37; refine (Dw.specIn_any _ _ _ _).mono ?_; rintro e w' ⟨rfl, rfl⟩))
  clear hB
  go_loopg [6] 36 (fun kq v6 w' => ∃ (x : Int) (r s : Nat), v6 = .int .i64 x ∧ Aside0 (0 ≤ x ∧ x.toNat + kq = 36 ∧ can r = (an l0 v x.toNat).1 ∧ can s = (an l0 v x.toNat).2) ∧ Aside0 (Below w.heap.size w w') ∧ Aside0 (w'.heap[w.heap.size]? = some (cells2 0 0 28)) ∧ Aside0 (w'.heap[w.heap.size + 1]? = some (cells2 r s 28)))
  case atStart => exact ⟨0, 0, 0, rfl, ⟨by omega, by simp, can_zero, can_zero⟩, ⟨Joins.below_alloc2 _ _ _⟩, ⟨row_alloc (heap_alloc_new _ _)⟩, ⟨heap_alloc2_new _ _ _⟩⟩
  case round =>
    try clear p2
    obtain ⟨x, r, s, rfl, HX, HB, K1, K2⟩ := hrel
    cases gk with
    | zero =>
      obtain ⟨p0, hx, hr, hs⟩ := HX.out
      have q0 : x = 36 := by omega
      subst q0
      have HA := Aside0.mk (show can r = (an l0 v 36).1 from hr)
      have HS := Aside0.mk (show can s = (an l0 v 36).2 from hs)
      clear hr hs hx p0 HX
      have o1 := row_cell K2.out 0
      have o2 := row_cell K2.out 1
      have o3 := row_frozen K1.out 0
      have o4 := row_frozen K1.out 1
      have o5 := row_cell K1.out 0
      have o6 := row_cell K1.out 1
      have l1 := row_lt K1.out
      have l2 := row_lt K2.out
      have c6b0 : decide ((36 : Int) < 36) = false := rfl
      go_wp2_with (refine wpList_fop rfl rfl (by decide) rfl rfl ?_; intro r n hr hl; have hr' := Lib.hid hr; clear hr)
      rename_i q n0 hl0 hq
      refine bodyPost_ret (results_cell_row rfl _ _ w.heap.size 28 #[.float .f64 q, .float .f64 r] (0, 0) _ rfl (row_put2 K1.out) Tryd.underlying28 rfl (by kernel_rfl)) rfl ?_
      exact ⟨_, _, rfl, by rw [← HA.out]; exact hq.out, by rw [← HS.out]; exact hr'.out, draws (bset2 HB.out (Nat.le_refl _) _ _) _⟩
    | succ k1 =>
      obtain ⟨p0, hx, hr, hs⟩ := HX.out
      have q0 : x < 36 := by omega
      have c6b0 : decide (x < 36) = true := decide_eq_true q0
      obtain ⟨ad, ea, h1⟩ := at_flt HR0.out x p0 (by have := HL.out; omega)
      cases ea
      have l1 := row_lt K1.out
      obtain ⟨o1, o2, o3, o4, o5, o6, o7⟩ := keepA (w1 := w) HB.out K2.out h1
      obtain ⟨vx, hvx⟩ : ∃ y, v * x = y := ⟨_, rfl⟩
      have hv0 : 0 ≤ vx := by rw [← hvx]; exact Int.mul_nonneg (by have := HV.out; omega) p0
      have hv1 : vx ≤ 17 * 36 := by rw [← hvx]; exact Int.mul_le_mul (by have := HV.out; omega) (by omega) p0 (by omega)
      have hm : IntKind.i64.wrap (v * x) = vx := by rw [hvx, IntKind.wrap_i64]; omega
      obtain ⟨ky, hky⟩ : ∃ y, -vx = y := ⟨_, rfl⟩
      have hn : IntKind.i64.wrap (-vx) = ky := by rw [IntKind.wrap_i64, ← hky]; omega
      have hVX := Aside0.mk hvx
      clear hv0 hv1 hvx
      have h1' := Aside0.mk h1
      clear hx hr hs h1
      replace p0 := eq_true p0
      replace q0 := eq_true q0
      obtain ⟨vv, hvv⟩ : ∃ a, sv ((ky % 36 + 9) % 36) = a := ⟨_, rfl⟩
      obtain ⟨uu, huu⟩ : ∃ a, sv (ky % 36) = a := ⟨_, rfl⟩
      have ST := specTurn_any ky
      unfold tr at ST
      rw [hvv, huu] at ST
      replace ST := Lib.hid ST
      replace hky := Lib.hid hky
      replace hvv := Lib.hid hvv
      replace huu := Lib.hid huu
      go_wp2
      refine start_ (n := 14) (S := fun u => Below w.heap.size w u ∧ u.heap[w.heap.size + 1]? = some (cells2 r s 28) ∧ u.cell? ⟨w.heap.size + 1, 0, none⟩ = some (.float .f64 r) ∧ u.cell? ⟨w.heap.size + 1, 1, none⟩ = some (.float .f64 s) ∧ u.frozen? ⟨w.heap.size + 1, 0, none⟩ = false ∧ u.frozen? ⟨w.heap.size + 1, 1, none⟩ = false ∧ u.cell? (ad.add x.toNat) = some (.float .f64 (rdOf 0 l0 x))) (ds := [13]) #[false, false, false, false, false, false, false, false, false, false, false, false, false, false] (by kernel_rfl) rfl rfl (keepA (w1 := w) (Below.drew HB.out) K2.out h1'.out) (fun hHeld => ?_)
      refine pure_ (i := 1) (N := some 24) (v := ?_) (a' := ?_) #[false, true, false, false, false, false, false, false, false, false, false, false, false, false] rfl rfl (by kernel_rfl) (fun _ _ _ h => h) (Or.inl ⟨by rfl, ?_⟩) ?_ ?_
      rotate_left
      · intro w'
        go_simp
        with_reducible rfl
      rotate_left
      · simp only [Act.put, List.setIfInBounds_toArray, List.set_cons_zero, List.set_cons_succ]
        rfl
      refine pure_ (i := 2) (N := some 25) (v := ?_) (a' := ?_) #[false, true, true, false, false, false, false, false, false, false, false, false, false, false] rfl rfl (by kernel_rfl) (fun _ _ _ h => h) (Or.inl ⟨by rfl, ?_⟩) ?_ ?_
      rotate_left
      · intro w'
        go_simp
        with_reducible rfl
      rotate_left
      · simp only [Act.put, List.setIfInBounds_toArray, List.set_cons_zero, List.set_cons_succ]
        rfl
      refine pure_ (i := 6) (N := some 29) (v := ?_) (a' := ?_) #[false, true, true, false, false, false, true, false, false, false, false, false, false, false] rfl rfl (by kernel_rfl) (fun _ _ _ h => h) (Or.inl ⟨by rfl, ?_⟩) ?_ ?_
      rotate_left
      · intro w'
        go_simp
        with_reducible rfl
      rotate_left
      · simp only [Act.put, List.setIfInBounds_toArray, List.set_cons_zero, List.set_cons_succ]
        rfl
      refine pure_ (i := 7) (N := some 30) (v := ?_) (a' := ?_) #[false, true, true, false, false, false, true, true, false, false, false, false, false, false] rfl rfl (by kernel_rfl) (fun _ _ _ h => h) (Or.inl ⟨by rfl, ?_⟩) ?_ ?_
      rotate_left
      · intro w'
        go_simp
        with_reducible rfl
      rotate_left
      · simp only [Act.put, List.setIfInBounds_toArray, List.set_cons_zero, List.set_cons_succ]
        rfl
      refine pure_ (i := 8) (N := some 31) (v := ?_) (a' := ?_) #[false, true, true, false, false, false, true, true, true, false, false, false, false, false] rfl rfl (by kernel_rfl) (fun _ _ _ h => h) (Or.inl ⟨by rfl, ?_⟩) ?_ ?_
      rotate_left
      · intro w'
        go_simp
        with_reducible rfl
      rotate_left
      · simp only [Act.put, List.setIfInBounds_toArray, List.set_cons_zero, List.set_cons_succ]
        rfl
      refine pure_ (i := 9) (N := some 32) (v := ?_) (a' := ?_) #[false, true, true, false, false, false, true, true, true, true, false, false, false, false] rfl rfl (by kernel_rfl) (fun _ _ _ h => h) (Or.inl ⟨by rfl, ?_⟩) ?_ ?_
      rotate_left
      · intro w'
        go_simp
        with_reducible rfl
      rotate_left
      · simp only [Act.put, List.setIfInBounds_toArray, List.set_cons_zero, List.set_cons_succ]
        rfl
      refine pure_ (i := 3) (N := some 26) (v := ?_) (a' := ?_) #[false, true, true, true, false, false, true, true, true, true, false, false, false, false] rfl rfl (by kernel_rfl) (fun _ _ _ h => h) (Or.inl ⟨by rfl, ?_⟩) ?_ ?_
      rotate_left
      · intro w'
        go_simp
        with_reducible rfl
      rotate_left
      · simp only [Act.put, List.setIfInBounds_toArray, List.set_cons_zero, List.set_cons_succ]
        rfl
      refine take_ (i := 0) (N := some 23) (v := ?_) (a' := ?_) #[true, true, true, true, false, false, true, true, true, true, false, false, false, false] rfl rfl (by kernel_rfl) (fun _ _ _ h => h) (Or.inl ⟨by rfl, ?_⟩) hHeld ?_ ?_
      rotate_left
      · rintro w' ⟨s0, s1, s2, s3, s4, s5, s6⟩
        go_simp
        with_reducible rfl
      rotate_left
      · simp only [Act.put, List.setIfInBounds_toArray, List.set_cons_zero, List.set_cons_succ]
        rfl
      refine take_ (i := 4) (N := some 27) (v := ?_) (a' := ?_) #[true, true, true, true, true, false, true, true, true, true, false, false, false, false] rfl rfl (by kernel_rfl) (fun _ _ _ h => h) (Or.inl ⟨by rfl, ?_⟩) hHeld ?_ ?_
      rotate_left
      · rintro w' ⟨s0, s1, s2, s3, s4, s5, s6⟩
        go_simp
        with_reducible rfl
      rotate_left
      · simp only [Act.put, List.setIfInBounds_toArray, List.set_cons_zero, List.set_cons_succ]
        rfl
      refine pure_ (i := 5) (N := some 28) (v := ?_) (a' := ?_) #[true, true, true, true, true, true, true, true, true, true, false, false, false, false] rfl rfl (by kernel_rfl) (fun _ _ _ h => h) (Or.inl ⟨by rfl, ?_⟩) ?_ ?_
      rotate_left
      · intro w'
        go_simp
        with_reducible rfl
      rotate_left
      · simp only [Act.put, List.setIfInBounds_toArray, List.set_cons_zero, List.set_cons_succ]
        rfl
      replace K1 := Aside0.mk (show wr.drew.heap[w.heap.size]? = some (cells2 0 0 28) from K1.out)
      refine one_ (i := 10) (N := some 33) #[true, true, true, true, true, true, true, true, true, true, true, false, false, false] rfl rfl (by kernel_rfl) (by decide) (fun K hK => ?_)
      refine goes_ Tryd.func15 (by kernel_rfl) rfl #[.int .i64 ky] (by rfl) rfl rfl (by (try simp only [List.map_toArray, List.map_cons, List.map_nil]); first | done | rfl) ?_
      refine (ST.out _).mono ?_
      rintro e w' ⟨rfl, hb⟩
      refine ⟨_, rfl, ?_⟩
      have HK := keepA (w1 := w) (Fp.step hHeld.1 hb) (keep_row hHeld.2.1 hb) h1'.out
      replace K1 := Aside0.mk (keep_row K1.out hb)
      refine hK.out _ _ HK (fun hHeld => ?_)
      clear hK K HK hb
      refine norm_ (a' := ?_) ?_ ?_
      rotate_left
      · show Act.put _ (some 33) _ = _
        simp only [Act.put, List.setIfInBounds_toArray, List.set_cons_zero, List.set_cons_succ]
        rfl
      refine one_ (i := 11) (N := some 34) #[true, true, true, true, true, true, true, true, true, true, true, true, false, false] rfl rfl (by kernel_rfl) (by decide) (fun K hK => ?_)
      refine goes_ Tryd.func39 (by kernel_rfl) rfl #[pr (rdOf 0 l0 x) 0, pr vv uu] (by rfl) rfl rfl (by (try simp only [List.map_toArray, List.map_cons, List.map_nil]); first | done | rfl) ?_
      refine (Fn.specMul_any _ _ _ _ _).mono ?_
      rintro e w' ⟨m1, m2, rfl, hm1, hm2, hb⟩
      refine ⟨_, rfl, ?_⟩
      have HK := keepA (w1 := w) (Fp.step hHeld.1 hb) (keep_row hHeld.2.1 hb) h1'.out
      replace K1 := Aside0.mk (keep_row K1.out hb)
      refine hK.out _ _ HK (fun hHeld => ?_)
      clear hK K HK hb
      refine norm_ (a' := ?_) ?_ ?_
      rotate_left
      · show Act.put _ (some 34) _ = _
        simp only [Act.put, List.setIfInBounds_toArray, List.set_cons_zero, List.set_cons_succ]
        rfl
      replace hm1 := Aside0.mk hm1
      replace hm2 := Aside0.mk hm2
      refine one_ (i := 12) (N := some 35) #[true, true, true, true, true, true, true, true, true, true, true, true, true, false] rfl rfl (by kernel_rfl) (by decide) (fun K hK => ?_)
      refine goes_ Tryd.func38 (by kernel_rfl) rfl #[pr r s, pr m1 m2] (by rfl) rfl rfl (by (try simp only [List.map_toArray, List.map_cons, List.map_nil]); first | done | rfl) ?_
      refine (Fm.specAdd_any _ _ _ _ _).mono ?_
      rintro e w' ⟨a1, a2, rfl, ha1, ha2, hb⟩
      refine ⟨_, rfl, ?_⟩
      have HK := keepA (w1 := w) (Fp.step hHeld.1 hb) (keep_row hHeld.2.1 hb) h1'.out
      replace K1 := Aside0.mk (keep_row K1.out hb)
      refine hK.out _ _ HK (fun hHeld => ?_)
      clear hK K HK hb
      refine norm_ (a' := ?_) ?_ ?_
      rotate_left
      · show Act.put _ (some 35) _ = _
        simp only [Act.put, List.setIfInBounds_toArray, List.set_cons_zero, List.set_cons_succ]
        rfl
      replace ha1 := Aside0.mk ha1
      replace ha2 := Aside0.mk ha2
      have T1 := Aside0.mk hHeld.1
      have T2 := Aside0.mk hHeld.2.1
      obtain ⟨t0, t1, t2, t3, t4, t5, t6⟩ := hHeld
      refine last_ (i := 13) (N := none) #[true, true, true, true, true, true, true, true, true, true, true, true, true, true] rfl rfl (by kernel_rfl) (by decide) (fun K hK => ?_)
      rw [if_pos (by rfl)]
      have l2 := row_lt T2.out
      go_simp
      refine hK.out _ _ ?_
      refine done_ (by kernel_rfl) ?_
      go_wp2
      go_roundg k1
      case measure => omega
      case rel =>
        obtain ⟨x0, x1, x2, x3⟩ := HX.out
        obtain ⟨y1, y2⟩ := an_next x0 x2 x3 (by rw [hVX.out]; exact hky.out) hvv.out huu.out hm1.out hm2.out ha1.out ha2.out
        exact ⟨x + 1, a1, a2, by rw [wrap_next x0 (by omega)], ⟨by omega, by omega, y1, y2⟩, ⟨bset2 T1.out (by omega) _ _⟩, ⟨row_set (row_set K1.out (by omega)) (by omega)⟩, ⟨row_put2 T2.out⟩⟩


set_option maxHeartbeats 8000000 in
theorem specAn_bad (A0 : Option Addr) (n c0 : Nat) (v : Int) (w : World) (hb : ¬(n = 36 ∧ 1 ≤ v ∧ v ≤ 17)) : Calls Tryd.prog 17 #[.slice A0 n c0, .int .i64 v] w fun e w' => ∃ r s, e = .returned (pr r s) ∧ can r = none ∧ can s = none ∧ Below w.heap.size w w' := by
  by_cases hn : n = 36
  · have hB : (decide (1 ≤ v) && decide (v ≤ 17)) = false := by
      by_cases h1 : 1 ≤ v
      · have h2 : ¬ v ≤ 17 := fun h2 => hb ⟨hn, h1, h2⟩
        rw [decide_eq_false h2, Bool.and_false]
      · rw [decide_eq_false h1, Bool.false_and]
    subst hn
    clear hb
    go_enter Tryd.func17, Tryd.ntmps17
    go_wp2_with (first | (go_at_call 37; refine (Dw.specIn_any _ _ _ _).mono ?_; rintro e w' ⟨rfl, rfl⟩) | (go_at_call 31; refine (Fv.l1None_any _).mono ?_; rintro e w' ⟨r, n, rfl, rfl, hr, hl⟩; have hr' := Lib.hid hr; clear hr hl))
    rename_i q n0 hq
    refine bodyPost_ret (results_cell_row rfl _ _ w.heap.size 28 #[.float .f64 q, .float .f64 r] (0, 0) _ rfl (heap_alloc_new _ _) Tryd.underlying28 rfl (by kernel_rfl)) rfl ?_
    exact ⟨_, _, rfl, hq.out, hr'.out, draws (balloc (Below.refl _ _) _) _⟩
  · have c0' : ((n : Int) == 36) = false := beq_eq_false_iff_ne.2 (by omega)
    have c1' : decide ((n : Int) = 36) = false := decide_eq_false (by omega)
    clear hb
    go_enter Tryd.func17, Tryd.ntmps17
    go_wp2_with (first | (go_at_call 31; refine (Fv.l1None_any _).mono ?_; rintro e w' ⟨r, n, rfl, rfl, hr, hl⟩; have hr' := Lib.hid hr; clear hr hl))
    rename_i q n0 hq
    refine bodyPost_ret (results_cell_row rfl _ _ w.heap.size 28 #[.float .f64 q, .float .f64 r] (0, 0) _ rfl (heap_alloc_new _ _) Tryd.underlying28 rfl (by kernel_rfl)) rfl ?_
    exact ⟨_, _, rfl, hq.out, hr'.out, draws (balloc (Below.refl _ _) _) _⟩

set_option maxHeartbeats 8000000 in
theorem implAn_bad (A0 : Option Addr) (n c0 : Nat) (v : Int) (w : World) (hb : ¬(n = 36 ∧ 1 ≤ v ∧ v ≤ 17)) : Calls Tryd.prog 19 #[.slice A0 n c0, .int .i64 v] w fun e w' => ∃ r s, e = .returned (pr r s) ∧ can r = none ∧ can s = none ∧ Below w.heap.size w w' := by
  by_cases hn : n = 36
  · have hB : (decide (1 ≤ v) && decide (v ≤ 17)) = false := by
      by_cases h1 : 1 ≤ v
      · have h2 : ¬ v ≤ 17 := fun h2 => hb ⟨hn, h1, h2⟩
        rw [decide_eq_false h2, Bool.and_false]
      · rw [decide_eq_false h1, Bool.false_and]
    subst hn
    clear hb
    go_enter Tryd.func19, Tryd.ntmps19
    go_wp2_with (first | (go_at_call 40; refine (Dw.implIn_any _ _ _ _).mono ?_; rintro e w' ⟨rfl, rfl⟩) | (go_at_call 33; refine (Fv.nan_any _).mono ?_; rintro e w' ⟨rfl, rfl⟩))
    refine bodyPost_ret (results_cell_row rfl _ _ w.heap.size 28 #[.float .f64 9221120237041090561, .float .f64 9221120237041090561] (0, 0) _ rfl (heap_alloc_new _ _) Tryd.underlying28 rfl (by kernel_rfl)) rfl ?_
    exact ⟨_, _, rfl, Fv.can_qnan, Fv.can_qnan, balloc (Below.refl _ _) _⟩
  · have c0' : ((n : Int) == 36) = false := beq_eq_false_iff_ne.2 (by omega)
    have c1' : decide ((n : Int) = 36) = false := decide_eq_false (by omega)
    clear hb
    go_enter Tryd.func19, Tryd.ntmps19
    go_wp2_with (first | (go_at_call 33; refine (Fv.nan_any _).mono ?_; rintro e w' ⟨rfl, rfl⟩))
    refine bodyPost_ret (results_cell_row rfl _ _ w.heap.size 28 #[.float .f64 9221120237041090561, .float .f64 9221120237041090561] (0, 0) _ rfl (heap_alloc_new _ _) Tryd.underlying28 rfl (by kernel_rfl)) rfl ?_
    exact ⟨_, _, rfl, Fv.can_qnan, Fv.can_qnan, balloc (Below.refl _ _) _⟩

set_option maxHeartbeats 8000000 in
theorem implAn_any (A0 : Option Addr) (c0 : Nat) (l0 : List Nat) (v : Int) (w : World) (hl : l0.length = 36) (hv : 1 ≤ v ∧ v ≤ 17) (hr0 : flt.C w A0 l0.length l0) (hS : Sines w) : Calls Tryd.prog 19 #[.slice A0 36 c0, .int .i64 v] w fun e w' => ∃ r s, e = .returned (pr r s) ∧ can r = fop .quo (an l0 v 36).1 (can 4625759767262920704) ∧ can s = fop .quo (an l0 v 36).2 (can 4625759767262920704) ∧ Below w.heap.size w w' := by
  have HR0 := Aside0.mk hr0
  have HSI := Aside0.mk hS
  have HL := Aside0.mk hl
  have HV := Aside0.mk hv
  have hB : (decide (1 ≤ v) && decide (v ≤ 17)) = true := by rw [decide_eq_true hv.1, decide_eq_true hv.2]; rfl
  clear hr0 hl hv hS
  go_enter Tryd.func19, Tryd.ntmps19
  go_wp2_with (first | (go_at_call 40; refine (Dw.implIn_any _ _ _ _).mono ?_; rintro e w' ⟨rfl, rfl⟩))
  clear hB
  go_loopg [22] 36 (fun kq v6 w' => ∃ (x : Int) (r s : Nat), v6 = .int .i64 x ∧ Aside0 (0 ≤ x ∧ x.toNat + kq = 36 ∧ can r = (an l0 v x.toNat).1 ∧ can s = (an l0 v x.toNat).2) ∧ Aside0 (Below w.heap.size w w') ∧ Aside0 (w'.heap[w.heap.size]? = some (cells2 0 0 28)) ∧ Aside0 (w'.heap[w.heap.size + 1]? = some (cells2 r s 28)))
  case atStart => exact ⟨0, 0, 0, rfl, ⟨by omega, by simp, can_zero, can_zero⟩, ⟨Joins.below_alloc2 _ _ _⟩, ⟨row_alloc (heap_alloc_new _ _)⟩, ⟨heap_alloc2_new _ _ _⟩⟩
  case round =>
    try clear p2
    obtain ⟨x, r, s, rfl, HX, HB, K1, K2⟩ := hrel
    cases gk with
    | zero =>
      obtain ⟨p0, hx, hr, hs⟩ := HX.out
      have q0 : x = 36 := by omega
      subst q0
      have HA := Aside0.mk (show can r = (an l0 v 36).1 from hr)
      have HS := Aside0.mk (show can s = (an l0 v 36).2 from hs)
      clear hr hs hx p0 HX
      have o1 := row_cell K2.out 0
      have o2 := row_cell K2.out 1
      have o3 := row_frozen K1.out 0
      have o4 := row_frozen K1.out 1
      have o5 := row_cell K1.out 0
      have o6 := row_cell K1.out 1
      have l1 := row_lt K1.out
      have l2 := row_lt K2.out
      have c6b0 : decide ((36 : Int) < 36) = false := rfl
      go_wp2_with (refine wpList_fop rfl rfl (by decide) rfl rfl ?_; intro r n hr hl; have hr' := Lib.hid hr; clear hr)
      rename_i q n0 hl0 hq
      refine bodyPost_ret (results_cell_row rfl _ _ w.heap.size 28 #[.float .f64 q, .float .f64 r] (0, 0) _ rfl (row_put2 K1.out) Tryd.underlying28 rfl (by kernel_rfl)) rfl ?_
      exact ⟨_, _, rfl, by rw [← HA.out]; exact hq.out, by rw [← HS.out]; exact hr'.out, draws (bset2 HB.out (Nat.le_refl _) _ _) _⟩
    | succ k1 =>
      obtain ⟨p0, hx, hr, hs⟩ := HX.out
      have q0 : x < 36 := by omega
      have c6b0 : decide (x < 36) = true := decide_eq_true q0
      obtain ⟨ad, ea, h1⟩ := at_flt HR0.out x p0 (by have := HL.out; omega)
      cases ea
      have l1 := row_lt K1.out
      obtain ⟨o1, o2, o3, o4, o5, o6, o7⟩ := keepA (w1 := w) HB.out K2.out h1
      obtain ⟨vx, hvx⟩ : ∃ y, v * x = y := ⟨_, rfl⟩
      have hv0 : 0 ≤ vx := by rw [← hvx]; exact Int.mul_nonneg (by have := HV.out; omega) p0
      have hv1 : vx ≤ 17 * 36 := by rw [← hvx]; exact Int.mul_le_mul (by have := HV.out; omega) (by omega) p0 (by omega)
      obtain ⟨ky, hky⟩ : ∃ y, -vx = y := ⟨_, rfl⟩
      obtain ⟨nv, hnv⟩ : ∃ y, -v = y := ⟨_, rfl⟩
      have hm : IntKind.i64.wrap (-v) = nv := by rw [IntKind.wrap_i64, ← hnv]; have := HV.out; omega
      have hn : IntKind.i64.wrap (nv * x) = ky := by rw [← hnv, Int.neg_mul, hvx, IntKind.wrap_i64, ← hky]; omega
      clear hnv
      have hVX := Aside0.mk hvx
      clear hv0 hv1 hvx
      have h1' := Aside0.mk h1
      clear hx hr hs h1
      replace p0 := eq_true p0
      replace q0 := eq_true q0
      obtain ⟨vv, hvv⟩ : ∃ a, sv ((ky % 36 + 9) % 36) = a := ⟨_, rfl⟩
      obtain ⟨uu, huu⟩ : ∃ a, sv (ky % 36) = a := ⟨_, rfl⟩
      have ST := implTurn_any ky
      unfold tr at ST
      rw [hvv, huu] at ST
      replace ST := Lib.hid ST
      replace hky := Lib.hid hky
      replace hvv := Lib.hid hvv
      replace huu := Lib.hid huu
      go_wp2
      refine start_ (n := 11) (S := fun u => Below w.heap.size w u ∧ u.heap[w.heap.size + 1]? = some (cells2 r s 28) ∧ u.cell? ⟨w.heap.size + 1, 0, none⟩ = some (.float .f64 r) ∧ u.cell? ⟨w.heap.size + 1, 1, none⟩ = some (.float .f64 s) ∧ u.frozen? ⟨w.heap.size + 1, 0, none⟩ = false ∧ u.frozen? ⟨w.heap.size + 1, 1, none⟩ = false ∧ u.cell? (ad.add x.toNat) = some (.float .f64 (rdOf 0 l0 x))) (ds := [10]) #[false, false, false, false, false, false, false, false, false, false, false] (by kernel_rfl) rfl rfl (keepA (w1 := w) (Below.drew HB.out) K2.out h1'.out) (fun hHeld => ?_)
      refine pure_ (i := 1) (N := some 28) (v := ?_) (a' := ?_) #[false, true, false, false, false, false, false, false, false, false, false] rfl rfl (by kernel_rfl) (fun _ _ _ h => h) (Or.inl ⟨by rfl, ?_⟩) ?_ ?_
      rotate_left
      · intro w'
        go_simp
        with_reducible rfl
      rotate_left
      · simp only [Act.put, List.setIfInBounds_toArray, List.set_cons_zero, List.set_cons_succ]
        rfl
      refine pure_ (i := 2) (N := some 29) (v := ?_) (a' := ?_) #[false, true, true, false, false, false, false, false, false, false, false] rfl rfl (by kernel_rfl) (fun _ _ _ h => h) (Or.inl ⟨by rfl, ?_⟩) ?_ ?_
      rotate_left
      · intro w'
        go_simp
        with_reducible rfl
      rotate_left
      · simp only [Act.put, List.setIfInBounds_toArray, List.set_cons_zero, List.set_cons_succ]
        rfl
      refine pure_ (i := 3) (N := some 30) (v := ?_) (a' := ?_) #[false, true, true, true, false, false, false, false, false, false, false] rfl rfl (by kernel_rfl) (fun _ _ _ h => h) (Or.inl ⟨by rfl, ?_⟩) ?_ ?_
      rotate_left
      · intro w'
        go_simp
        with_reducible rfl
      rotate_left
      · simp only [Act.put, List.setIfInBounds_toArray, List.set_cons_zero, List.set_cons_succ]
        rfl
      refine pure_ (i := 4) (N := some 31) (v := ?_) (a' := ?_) #[false, true, true, true, true, false, false, false, false, false, false] rfl rfl (by kernel_rfl) (fun _ _ _ h => h) (Or.inl ⟨by rfl, ?_⟩) ?_ ?_
      rotate_left
      · intro w'
        go_simp
        with_reducible rfl
      rotate_left
      · simp only [Act.put, List.setIfInBounds_toArray, List.set_cons_zero, List.set_cons_succ]
        rfl
      refine pure_ (i := 5) (N := some 32) (v := ?_) (a' := ?_) #[false, true, true, true, true, true, false, false, false, false, false] rfl rfl (by kernel_rfl) (fun _ _ _ h => h) (Or.inl ⟨by rfl, ?_⟩) ?_ ?_
      rotate_left
      · intro w'
        go_simp
        with_reducible rfl
      rotate_left
      · simp only [Act.put, List.setIfInBounds_toArray, List.set_cons_zero, List.set_cons_succ]
        rfl
      refine pure_ (i := 6) (N := some 33) (v := ?_) (a' := ?_) #[false, true, true, true, true, true, true, false, false, false, false] rfl rfl (by kernel_rfl) (fun _ _ _ h => h) (Or.inl ⟨by rfl, ?_⟩) ?_ ?_
      rotate_left
      · intro w'
        go_simp
        with_reducible rfl
      rotate_left
      · simp only [Act.put, List.setIfInBounds_toArray, List.set_cons_zero, List.set_cons_succ]
        rfl
      refine take_ (i := 0) (N := some 27) (v := ?_) (a' := ?_) #[true, true, true, true, true, true, true, false, false, false, false] rfl rfl (by kernel_rfl) (fun _ _ _ h => h) (Or.inl ⟨by rfl, ?_⟩) hHeld ?_ ?_
      rotate_left
      · rintro w' ⟨s0, s1, s2, s3, s4, s5, s6⟩
        go_simp
        with_reducible rfl
      rotate_left
      · simp only [Act.put, List.setIfInBounds_toArray, List.set_cons_zero, List.set_cons_succ]
        rfl
      replace K1 := Aside0.mk (show wr.drew.heap[w.heap.size]? = some (cells2 0 0 28) from K1.out)
      refine one_ (i := 7) (N := some 34) #[true, true, true, true, true, true, true, true, false, false, false] rfl rfl (by kernel_rfl) (by decide) (fun K hK => ?_)
      refine goes_ Tryd.func16 (by kernel_rfl) rfl #[.int .i64 ky] (by rfl) rfl rfl (by (try simp only [List.map_toArray, List.map_cons, List.map_nil]); first | done | rfl) ?_
      refine (ST.out _ (HSI.out.below hHeld.1)).mono ?_
      rintro e w' ⟨rfl, hb⟩
      refine ⟨_, rfl, ?_⟩
      have HK := keepA (w1 := w) (Fp.step hHeld.1 hb) (keep_row hHeld.2.1 hb) h1'.out
      replace K1 := Aside0.mk (keep_row K1.out hb)
      refine hK.out _ _ HK (fun hHeld => ?_)
      clear hK K HK hb
      refine norm_ (a' := ?_) ?_ ?_
      rotate_left
      · show Act.put _ (some 34) _ = _
        simp only [Act.put, List.setIfInBounds_toArray, List.set_cons_zero, List.set_cons_succ]
        rfl
      refine one_ (i := 8) (N := some 35) #[true, true, true, true, true, true, true, true, true, false, false] rfl rfl (by kernel_rfl) (by decide) (fun K hK => ?_)
      refine goes_ Tryd.func29 (by kernel_rfl) rfl #[pr (rdOf 0 l0 x) 0, pr vv uu] (by rfl) rfl rfl (by (try simp only [List.map_toArray, List.map_cons, List.map_nil]); first | done | rfl) ?_
      refine (Fn.implMul_any _ _ _ _ _).mono ?_
      rintro e w' ⟨m1, m2, rfl, hm1, hm2, hb⟩
      refine ⟨_, rfl, ?_⟩
      have HK := keepA (w1 := w) (Fp.step hHeld.1 hb) (keep_row hHeld.2.1 hb) h1'.out
      replace K1 := Aside0.mk (keep_row K1.out hb)
      refine hK.out _ _ HK (fun hHeld => ?_)
      clear hK K HK hb
      refine norm_ (a' := ?_) ?_ ?_
      rotate_left
      · show Act.put _ (some 35) _ = _
        simp only [Act.put, List.setIfInBounds_toArray, List.set_cons_zero, List.set_cons_succ]
        rfl
      replace hm1 := Aside0.mk hm1
      replace hm2 := Aside0.mk hm2
      refine one_ (i := 9) (N := some 36) #[true, true, true, true, true, true, true, true, true, true, false] rfl rfl (by kernel_rfl) (by decide) (fun K hK => ?_)
      refine goes_ Tryd.func28 (by kernel_rfl) rfl #[pr r s, pr m1 m2] (by rfl) rfl rfl (by (try simp only [List.map_toArray, List.map_cons, List.map_nil]); first | done | rfl) ?_
      refine (Fm.implAdd_any _ _ _ _ _).mono ?_
      rintro e w' ⟨a1, a2, rfl, ha1, ha2, hb⟩
      refine ⟨_, rfl, ?_⟩
      have HK := keepA (w1 := w) (Fp.step hHeld.1 hb) (keep_row hHeld.2.1 hb) h1'.out
      replace K1 := Aside0.mk (keep_row K1.out hb)
      refine hK.out _ _ HK (fun hHeld => ?_)
      clear hK K HK hb
      refine norm_ (a' := ?_) ?_ ?_
      rotate_left
      · show Act.put _ (some 36) _ = _
        simp only [Act.put, List.setIfInBounds_toArray, List.set_cons_zero, List.set_cons_succ]
        rfl
      replace ha1 := Aside0.mk ha1
      replace ha2 := Aside0.mk ha2
      have T1 := Aside0.mk hHeld.1
      have T2 := Aside0.mk hHeld.2.1
      obtain ⟨t0, t1, t2, t3, t4, t5, t6⟩ := hHeld
      refine last_ (i := 10) (N := none) #[true, true, true, true, true, true, true, true, true, true, true] rfl rfl (by kernel_rfl) (by decide) (fun K hK => ?_)
      rw [if_pos (by rfl)]
      have l2 := row_lt T2.out
      go_simp
      refine hK.out _ _ ?_
      refine done_ (by kernel_rfl) ?_
      go_wp2
      go_roundg k1
      case measure => omega
      case rel =>
        obtain ⟨x0, x1, x2, x3⟩ := HX.out
        obtain ⟨y1, y2⟩ := an_next x0 x2 x3 (by rw [hVX.out]; exact hky.out) hvv.out huu.out hm1.out hm2.out ha1.out ha2.out
        exact ⟨x + 1, a1, a2, by rw [wrap_next x0 (by omega)], ⟨by omega, by omega, y1, y2⟩, ⟨bset2 T1.out (by omega) _ _⟩, ⟨row_set (row_set K1.out (by omega)) (by omega)⟩, ⟨row_put2 T2.out⟩⟩


def anR (l : List Nat) (v : Int) : Option Nat := if l.length = 36 ∧ 1 ≤ v ∧ v ≤ 17 then fop .quo (an l v 36).1 (can 4625759767262920704) else none
def anI (l : List Nat) (v : Int) : Option Nat := if l.length = 36 ∧ 1 ≤ v ∧ v ≤ 17 then fop .quo (an l v 36).2 (can 4625759767262920704) else none
theorem specAn (A0 : Option Addr) (c0 : Nat) (l0 : List Nat) (v : Int) (w : World) (hr0 : flt.C w A0 l0.length l0) : Calls Tryd.prog 17 #[.slice A0 l0.length c0, .int .i64 v] w fun e w' => ∃ r s, e = .returned (pr r s) ∧ can r = anR l0 v ∧ can s = anI l0 v ∧ Below w.heap.size w w' := by
  unfold anR anI
  by_cases h : l0.length = 36 ∧ 1 ≤ v ∧ v ≤ 17
  · rw [if_pos h, if_pos h, h.1]
    exact specAn_any A0 c0 l0 v w h.1 h.2 hr0
  · rw [if_neg h, if_neg h]
    exact specAn_bad A0 l0.length c0 v w h
theorem implAn (A0 : Option Addr) (c0 : Nat) (l0 : List Nat) (v : Int) (w : World) (hr0 : flt.C w A0 l0.length l0) (hS : Sines w) : Calls Tryd.prog 19 #[.slice A0 l0.length c0, .int .i64 v] w fun e w' => ∃ r s, e = .returned (pr r s) ∧ can r = anR l0 v ∧ can s = anI l0 v ∧ Below w.heap.size w w' := by
  unfold anR anI
  by_cases h : l0.length = 36 ∧ 1 ≤ v ∧ v ≤ 17
  · rw [if_pos h, if_pos h, h.1]
    exact implAn_any A0 c0 l0 v w h.1 h.2 hr0 hS
  · rw [if_neg h, if_neg h]
    exact implAn_bad A0 l0.length c0 v w h

set_option maxHeartbeats 8000000 in
theorem law (A0 : Option Addr) (c0 : Nat) (l0 : List Nat) (v : Int) (w : World) (hr0 : flt.C w A0 l0.length l0) (hc0 : l0.length ≤ c0) (hS : Sines w) : Calls Tryd.prog 6 #[.slice A0 l0.length c0, .int .i64 v] w fun e w' => e = .returned (.bool true) ∧ Below w.heap.size w w' := by
  have HR0 := Aside0.mk hr0
  have HC0 := Aside0.mk hc0
  have HS := Aside0.mk hS
  clear hr0 hc0 hS
  have HB := Aside0.mk (Below.refl w.heap.size w)
  by_cases hm : (l0.length : Int) > 1048576
  · have c3b0 : decide (1048576 < (l0.length : Int)) = true := decide_eq_true hm
    have c3b1 : decide (1048576 < l0.length) = true := decide_eq_true (by omega)
    clear hm
    go_enter Tryd.func6, Tryd.ntmps6
    go_wp2
    go_ret
    exact ⟨rfl, Below.refl _ _⟩
  · have c3b0 : decide (1048576 < (l0.length : Int)) = false := decide_eq_false hm
    have c3b1 : decide (1048576 < l0.length) = false := decide_eq_false (by omega)
    have HM := Aside0.mk (show l0.length ≤ 1048576 by omega)
    clear hm
    go_enter Tryd.func6, Tryd.ntmps6
    go_wp2_with (first
      | (go_at_call 18; have z := E1; clear z; refine (toF_reads _ _ l0 _ HR0.out HC0.out HM.out).mono ?_; rintro e w' ⟨A, c, rfl, hl, hC, hb⟩; have HR3 := Aside0.mk hC; replace HR2 := Aside0.mk (Kd.C_below HR2.out hb); replace HB := Aside0.mk (Fp.step HB.out hb); clear hC hb hl)
      | (go_at_call 18; have z := K2; clear z; refine (toF_reads _ _ l0 _ HR0.out HC0.out HM.out).mono ?_; rintro e w' ⟨A, c, rfl, hl, hC, hb⟩; have HR2 := Aside0.mk hC; replace HR0 := Aside0.mk (Kd.C_below HR0.out hb); replace HB := Aside0.mk (Fp.step HB.out hb); replace K2 := Aside0.mk (keep_row K2.out hb); clear hC hb hl)
      | (go_at_call 18; refine (toF_reads _ _ l0 _ HR0.out HC0.out HM.out).mono ?_; rintro e w' ⟨A, c, rfl, hl, hC, hb⟩; have HR1 := Aside0.mk hC; replace HR0 := Aside0.mk (Kd.C_below HR0.out hb); replace HB := Aside0.mk (Fp.step HB.out hb); clear hC hb hl)
      | (go_at_call 17; refine (specAn _ _ _ _ _ HR1.out).mono ?_; rintro e w2 ⟨r, s, rfl, hr, hi, hb⟩; replace HR0 := Aside0.mk (Kd.C_alloc (Kd.C_below HR0.out hb) (cells2 r s 28)); replace HB := Aside0.mk (balloc (Fp.step HB.out hb) (cells2 r s 28)); have K2 := Aside0.mk (heap_alloc_new w2 (cells2 r s 28)); have Hr := Aside0.mk hr; have Hi := Aside0.mk hi; clear hb hr hi HR1)
      | (go_at_call 19; refine (implAn _ _ _ _ _ HR2.out ?hs).mono ?_; (case hs => exact HS.out.below HB.out); rintro e w4 ⟨q, q', rfl, hr, hi, hb⟩; replace K2 := Aside0.mk (keep_row K2.out hb); replace HB := Aside0.mk (balloc (Fp.step HB.out hb) (cells2 q q' 28)); replace HR0 := Aside0.mk (Kd.C_alloc (Kd.C_below HR0.out hb) (cells2 q q' 28)); replace HR2 := Aside0.mk (Kd.C_alloc (Kd.C_below HR2.out hb) (cells2 q q' 28)); have E1 := Aside0.mk (hr.trans Hr.out.symm); have E2 := Aside0.mk (hi.trans Hi.out.symm); clear hb hr hi; have c0' := row_cell K2.out 0; have c1' := row_cell K2.out 1; have l1 := row_lt K2.out)
      | (go_at_call 14; refine (eqPair_of _ _ _ _ E1.out E2.out _).mono ?_; rintro e w' ⟨rfl, hb⟩; replace HB := Aside0.mk (Fp.step HB.out hb); replace HR0 := Aside0.mk (Kd.C_below HR0.out hb); replace HR2 := Aside0.mk (Kd.C_below HR2.out hb); clear hb c0' c1' l1)
      | (go_at_call 20; refine (eqF_any _ _ _ _ l0 _ HR2.out HR3.out HM.out).mono ?_; rintro e w' ⟨rfl, n, rfl⟩))
    go_ret
    exact ⟨rfl, by repeat (first | (with_reducible first | exact HB.out | apply below_alloc | apply pw_below_drewN | apply below_drew1) | exact HB.out)⟩
end Go.Proofs.YtbgacfjocjcffabDoor.Da
