/-
  Contracts of Energy (both sides); the law of Energy.
  Conditions: the row's length is at most 2^20.
-/
import Derived.Test.YtbgacfjocjcffaaFl
import Derived.Test.YtbgacfjocjcffaaFr
namespace Go.Proofs.Ytbgacfjocjcffaa.Fy
open Go Go.RowKit Go.Proofs.Ytbgacfjocjcffaa.Fk Go.Proofs.Ytbgacfjocjcffaa.Qs Go.Proofs.Ytbgacfjocjcffaa.Fw Go.Proofs.Ytbgacfjocjcffaa.Fc Go.Proofs.Ytbgacfjocjcffaa.Fr Go.Proofs.Ytbgacfjocjcffaa.Fp Go.Proofs.Ytbgacfjocjcffaa.Fl
open Go.Proofs.YtbgacfjocjcffaaW.PrintWords Go.Proofs.YtbgacfjocjcffaaW.PrintLast Go.Proofs.YtbgacfjocjcffaaW.PrintMore
set_option linter.unusedVariables false
set_option linter.unusedSimpArgs false
attribute [local go_sem] Fp.run_store_float Fp.drewN_setCell Fp.drewN_alloc


def sq (p : S2) : Option Nat := fop .add (fop .mul (can p.f0) (can p.f0)) (fop .mul (can p.f1) (can p.f1))
def stp (s : Option Nat) (p : S2) : Option Nat := fop .add s (sq p)
def ens (l : List S2) : Option Nat := l.foldl stp (some 0)
theorem ens_next (l : List S2) (x : Int) (h0 : 0 ≤ x) (h : x.toNat < l.length) : ens (l.take (x + 1).toNat) = stp (ens (l.take x.toNat)) (rdS l x) := by
  rw [show (x + 1).toNat = x.toNat + 1 from by omega]
  unfold ens rdS
  rw [List.take_add_one, List.getElem?_eq_getElem h, List.foldl_append, List.getD_eq_getElem?_getD, List.getElem?_eq_getElem h]
  rfl
def EN (l : List S2) : Option Nat := if l.length > 4000 then some 0 else ens l

set_option maxHeartbeats 8000000 in
set_option maxRecDepth 100000 in
theorem specEn_any (A0 : Option Addr) (c0 : Nat) (l0 : List S2) (w : World) (hr0 : Kd.C kd2 w A0 l0.length l0) (hc0 : l0.length ≤ c0) (hm : l0.length ≤ 1048576) :
    Calls Try.prog 39 #[.slice A0 l0.length c0] w fun e w' => ∃ r : Nat, e = .returned (.float .f64 r) ∧ can r = EN l0 ∧ r < 18446744073709551616 ∧ Below w.heap.size w w' := by
  have HR0 := Aside0.mk hr0
  have HM := Aside0.mk hm
  clear hr0 hc0 hm
  have hu27 := Try.underlying27
  by_cases hm : l0.length ≤ 4000
  · have e0 : decide ((l0.length : Int) ≤ 4000) = true := decide_eq_true (by omega)
    have e1 : decide (l0.length ≤ 4000) = true := decide_eq_true hm
    have HE := Aside0.mk (show EN l0 = ens l0 by unfold EN; rw [if_neg (by omega)])
    clear hm
    go_enter Try.func39, Try.ntmps39
    go_wp2
    go_loopg [3, 4] l0.length (fun kq v3 v4 w' => ∃ (s : Nat) (x : Int), v3 = .float .f64 s ∧ v4 = .int .i64 x ∧ Aside0 (0 ≤ x ∧ x.toNat + kq = l0.length ∧ can s = ens (l0.take x.toNat) ∧ s < 18446744073709551616) ∧ Aside0 (Below w.heap.size w w'))
    case atStart => exact ⟨0, 0, rfl, rfl, ⟨by omega, by simp, by simp [ens]; exact can_zero, by omega⟩, ⟨Below.refl _ _⟩⟩
    case round =>
      try clear p2
      obtain ⟨s, x, rfl, rfl, HX, HB⟩ := hrel
      cases gk with
      | zero =>
        have c6b0 : decide (x < (l0.length : Int)) = false := decide_eq_false (by have := HX.out; omega)
        go_wp2
        go_ret
        obtain ⟨x0, x1, x2, x3⟩ := HX.out
        rw [List.take_of_length_le (by omega)] at x2
        exact ⟨_, rfl, by rw [HE.out]; exact x2, x3, by repeat (first | (with_reducible first | exact HB.out | apply below_alloc | apply pw_below_drewN | apply below_drew1) | exact HB.out)⟩
      | succ k1 =>
        obtain ⟨p111, hx, h2, h3⟩ := HX.out
        have q111 : x < (l0.length : Int) := by omega
        have c6b0 : decide (x < (l0.length : Int)) = true := decide_eq_true q111
        have HW1 := Aside0.mk (wrap_next p111 (by have := HM.out; omega) : wrap64 (x + 1) = x + 1)
        obtain ⟨ad111, e111, g0, g1⟩ := at_S HR0.out x p111 q111
        cases e111
        replace g0 := (HB.out.cell (World.block_lt_of_cell? w _ g0)).trans g0
        replace g1 := (HB.out.cell (World.block_lt_of_cell? w _ g1)).trans g1
        clear hx h2 h3
        replace p111 := eq_true p111
        replace q111 := eq_true q111
        go_wp2
        refine wp_draws (T := fun _ _ _ => False) (by kernel_rfl) (by kernel_rfl) ?_
        refine lex_move rfl (.inl rfl) ?_
        simp only [Act.put, List.setIfInBounds_toArray, List.set_cons_zero, List.set_cons_succ]
        refine lex_move rfl (.inl rfl) ?_
        simp only [Act.put, List.setIfInBounds_toArray, List.set_cons_zero, List.set_cons_succ]
        refine lex_one (v := .pointer (some (ad111.add (x.toNat * 2)))) rfl (by rintro _ ⟨n, rfl⟩; go_simp) ?_
        simp only [Act.put, List.setIfInBounds_toArray, List.set_cons_zero, List.set_cons_succ]
        refine lex_one (v := .pointer (some (ad111.add (x.toNat * 2)))) rfl (by rintro _ ⟨n, rfl⟩; go_simp) ?_
        simp only [Act.put, List.setIfInBounds_toArray, List.set_cons_zero, List.set_cons_succ]
        refine lex_one (v := .float .f64 (rdS l0 x).f0) rfl (by rintro _ ⟨n, rfl⟩; go_simp) ?_
        simp only [Act.put, List.setIfInBounds_toArray, List.set_cons_zero, List.set_cons_succ]
        refine lex_move rfl (.inl rfl) ?_
        simp only [Act.put, List.setIfInBounds_toArray, List.set_cons_zero, List.set_cons_succ]
        refine lex_move rfl (.inl rfl) ?_
        simp only [Act.put, List.setIfInBounds_toArray, List.set_cons_zero, List.set_cons_succ]
        refine lex_one (v := .pointer (some (ad111.add (x.toNat * 2)))) rfl (by rintro _ ⟨n, rfl⟩; go_simp) ?_
        simp only [Act.put, List.setIfInBounds_toArray, List.set_cons_zero, List.set_cons_succ]
        refine lex_one (v := .pointer (some (ad111.add (x.toNat * 2)))) rfl (by rintro _ ⟨n, rfl⟩; go_simp) ?_
        simp only [Act.put, List.setIfInBounds_toArray, List.set_cons_zero, List.set_cons_succ]
        refine lex_one (v := .float .f64 (rdS l0 x).f0) rfl (by rintro _ ⟨n, rfl⟩; go_simp) ?_
        simp only [Act.put, List.setIfInBounds_toArray, List.set_cons_zero, List.set_cons_succ]
        refine lex_fop (b1 := (rdS l0 x).f0) (b2 := (rdS l0 x).f0) rfl rfl (by decide) rfl rfl ?_
        intro p hp lp
        simp only [Act.put, List.setIfInBounds_toArray, List.set_cons_zero, List.set_cons_succ]
        refine lex_move rfl (.inl rfl) ?_
        simp only [Act.put, List.setIfInBounds_toArray, List.set_cons_zero, List.set_cons_succ]
        refine lex_move rfl (.inl rfl) ?_
        simp only [Act.put, List.setIfInBounds_toArray, List.set_cons_zero, List.set_cons_succ]
        refine lex_one (v := .pointer (some (ad111.add (x.toNat * 2)))) rfl (by rintro _ ⟨n, rfl⟩; go_simp) ?_
        simp only [Act.put, List.setIfInBounds_toArray, List.set_cons_zero, List.set_cons_succ]
        refine lex_one (v := .pointer (some ⟨(ad111.add (x.toNat * 2)).block, (ad111.add (x.toNat * 2)).off + 1, none⟩)) rfl (by rintro _ ⟨n, rfl⟩; go_simp) ?_
        simp only [Act.put, List.setIfInBounds_toArray, List.set_cons_zero, List.set_cons_succ]
        refine lex_one (v := .float .f64 (rdS l0 x).f1) rfl (by rintro _ ⟨n, rfl⟩; go_simp) ?_
        simp only [Act.put, List.setIfInBounds_toArray, List.set_cons_zero, List.set_cons_succ]
        refine lex_move rfl (.inl rfl) ?_
        simp only [Act.put, List.setIfInBounds_toArray, List.set_cons_zero, List.set_cons_succ]
        refine lex_move rfl (.inl rfl) ?_
        simp only [Act.put, List.setIfInBounds_toArray, List.set_cons_zero, List.set_cons_succ]
        refine lex_one (v := .pointer (some (ad111.add (x.toNat * 2)))) rfl (by rintro _ ⟨n, rfl⟩; go_simp) ?_
        simp only [Act.put, List.setIfInBounds_toArray, List.set_cons_zero, List.set_cons_succ]
        refine lex_one (v := .pointer (some ⟨(ad111.add (x.toNat * 2)).block, (ad111.add (x.toNat * 2)).off + 1, none⟩)) rfl (by rintro _ ⟨n, rfl⟩; go_simp) ?_
        simp only [Act.put, List.setIfInBounds_toArray, List.set_cons_zero, List.set_cons_succ]
        refine lex_one (v := .float .f64 (rdS l0 x).f1) rfl (by rintro _ ⟨n, rfl⟩; go_simp) ?_
        simp only [Act.put, List.setIfInBounds_toArray, List.set_cons_zero, List.set_cons_succ]
        refine lex_fop (b1 := (rdS l0 x).f1) (b2 := (rdS l0 x).f1) rfl rfl (by decide) rfl rfl ?_
        intro q hq lq
        simp only [Act.put, List.setIfInBounds_toArray, List.set_cons_zero, List.set_cons_succ]
        refine lex_fop (b1 := p) (b2 := q) rfl rfl (by decide) rfl rfl ?_
        intro r hr lr
        simp only [Act.put, List.setIfInBounds_toArray, List.set_cons_zero, List.set_cons_succ]
        refine lex_move rfl (.inr rfl) ?_
        simp only [Act.put, List.setIfInBounds_toArray, List.set_cons_zero, List.set_cons_succ]
        refine lex_nil ?_
        intro nq
        replace hp := Lib.hid hp
        replace hq := Lib.hid hq
        replace hr := Lib.hid hr
        clear lp lq
        go_wp2_with (refine wpList_fop rfl rfl (by decide) rfl rfl ?_; intro r2 n2 hr2 hl2; have hr2' := Lib.hid hr2; have hl2' := Lib.hid hl2; clear hr2 hl2)
        go_roundg k1
        case measure => omega
        case rel =>
          obtain ⟨x0, x1, x2, x3⟩ := HX.out
          exact ⟨r2, x + 1, rfl, by rw [HW1.out], ⟨by omega, by omega, by rw [ens_next l0 x x0 (by omega), hr2'.out, hr.out, hp.out, hq.out, x2]; rfl, hl2'.out⟩, ⟨by repeat (first | (with_reducible first | exact HB.out | apply below_alloc | apply pw_below_drewN | apply below_drew1) | exact HB.out)⟩⟩
  · have e0 : decide ((l0.length : Int) ≤ 4000) = false := decide_eq_false (by omega)
    have e1 : decide (l0.length ≤ 4000) = false := decide_eq_false hm
    have HE := Aside0.mk (show EN l0 = some 0 by unfold EN; rw [if_pos (by omega)])
    have e4 : decide ((0 : Int) < (l0.length : Int)) = true := decide_eq_true (by omega)
    have e5 : decide (0 < l0.length) = true := decide_eq_true (by omega)
    clear hm
    go_enter Try.func39, Try.ntmps39
    go_wp2
    go_loopg [3, 4] 0 (fun kq v3 v4 w' => v3 = .float .f64 0 ∧ v4 = .int .i64 0 ∧ w' = w)
    case atStart => exact ⟨rfl, rfl, rfl⟩
    case round =>
      try clear p2
      obtain ⟨rfl, rfl, rfl⟩ := hrel
      go_wp2
      go_ret
      exact ⟨_, rfl, by rw [HE.out]; exact can_zero, by omega, Below.refl _ _⟩

set_option maxHeartbeats 8000000 in
set_option maxRecDepth 100000 in
theorem implEn_any (A0 : Option Addr) (c0 : Nat) (l0 : List S2) (w : World) (hr0 : Kd.C kd2 w A0 l0.length l0) (hc0 : l0.length ≤ c0) (hm : l0.length ≤ 1048576) :
    Calls Try.prog 41 #[.slice A0 l0.length c0] w fun e w' => ∃ r : Nat, e = .returned (.float .f64 r) ∧ can r = EN l0 ∧ r < 18446744073709551616 ∧ Below w.heap.size w w' := by
  have HR0 := Aside0.mk hr0
  have HM := Aside0.mk hm
  clear hr0 hc0 hm
  have hu27 := Try.underlying27
  by_cases hm : l0.length ≤ 4000
  · have e0 : decide (4000 < (l0.length : Int)) = false := decide_eq_false (by omega)
    have e1 : decide (4000 < l0.length) = false := decide_eq_false (by omega)
    have HE := Aside0.mk (show EN l0 = ens l0 by unfold EN; rw [if_neg (by omega)])
    clear hm
    go_enter Try.func41, Try.ntmps41
    go_wp2
    go_loopg [3, 12] l0.length (fun kq v3 v12 w' => ∃ (s : Nat) (x : Int), v3 = .float .f64 s ∧ v12 = .int .i64 x ∧ Aside0 (0 ≤ x ∧ x.toNat + kq = l0.length ∧ can s = ens (l0.take x.toNat) ∧ s < 18446744073709551616) ∧ Aside0 (Below w.heap.size w w'))
    case atStart => exact ⟨0, 0, rfl, rfl, ⟨by omega, by simp, by simp [ens]; exact can_zero, by omega⟩, ⟨Below.refl _ _⟩⟩
    case round =>
      try clear p2
      obtain ⟨s, x, rfl, rfl, HX, HB⟩ := hrel
      cases gk with
      | zero =>
        have c6b0 : decide (x < (l0.length : Int)) = false := decide_eq_false (by have := HX.out; omega)
        go_wp2
        go_ret
        obtain ⟨x0, x1, x2, x3⟩ := HX.out
        rw [List.take_of_length_le (by omega)] at x2
        exact ⟨_, rfl, by rw [HE.out]; exact x2, x3, by repeat (first | (with_reducible first | exact HB.out | apply below_alloc | apply pw_below_drewN | apply below_drew1) | exact HB.out)⟩
      | succ k1 =>
        obtain ⟨p111, hx, h2, h3⟩ := HX.out
        have q111 : x < (l0.length : Int) := by omega
        have c6b0 : decide (x < (l0.length : Int)) = true := decide_eq_true q111
        have HW1 := Aside0.mk (wrap_next p111 (by have := HM.out; omega) : wrap64 (x + 1) = x + 1)
        obtain ⟨ad111, e111, g0, g1⟩ := at_S HR0.out x p111 q111
        cases e111
        replace g0 := (HB.out.cell (World.block_lt_of_cell? w _ g0)).trans g0
        replace g1 := (HB.out.cell (World.block_lt_of_cell? w _ g1)).trans g1
        clear hx h2 h3
        replace p111 := eq_true p111
        replace q111 := eq_true q111
        go_wp2_with (refine wpList_fop rfl rfl (by decide) rfl rfl ?_; intro r2 n2 hr2 hl2; have hr2' := Lib.hid hr2; have hl2' := Lib.hid hl2; clear hr2 hl2)
        go_roundg k1
        case measure => omega
        case rel =>
          rename_i rp np hp1 lp rq nq hq1 lq rr nr hrr lr
          obtain ⟨x0, x1, x2, x3⟩ := HX.out
          exact ⟨_, x + 1, rfl, by rw [HW1.out], ⟨by omega, by omega, by rw [ens_next l0 x x0 (by omega), hr2'.out, hrr.out, hp1.out, hq1.out, x2]; rfl, hl2'.out⟩, ⟨by repeat (first | (with_reducible first | exact HB.out | apply below_alloc | apply pw_below_drewN | apply below_drew1) | exact HB.out)⟩⟩
  · have e0 : decide (4000 < (l0.length : Int)) = true := decide_eq_true (by omega)
    have e1 : decide (4000 < l0.length) = true := decide_eq_true (by omega)
    have HE := Aside0.mk (show EN l0 = some 0 by unfold EN; rw [if_pos (by omega)])
    clear hm
    go_enter Try.func41, Try.ntmps41
    go_wp2
    go_ret
    exact ⟨_, rfl, by rw [HE.out]; exact can_zero, by omega, Below.refl _ _⟩

theorem sz_any (A0 : Option Addr) (c0 : Nat) (n : Nat) (w : World) (hn : n ≤ 9223372036854775807) (v : Int) (hv : (if n ≤ 1048576 then 1048576 - (n : Int) else -1) = v) : Calls Try.prog 38 #[.slice A0 n c0, .int .i64 1048576] w fun e w' => e = .returned (.int .i64 v) ∧ w' = w := by
  subst hv
  have hw : wrap64 (1048576 - (n : Int)) = 1048576 - (n : Int) := by unfold wrap64; omega
  by_cases hm : n ≤ 1048576
  · rw [if_pos hm]
    obtain ⟨y, hy⟩ : ∃ y, 1048576 - (n : Int) = y := ⟨_, rfl⟩
    rw [hy]
    replace hw := hw.trans hy
    have e0 : decide (y < 0) = false := decide_eq_false (by omega)
    clear hm hy hn
    go_enter Try.func38, Try.ntmps38
    go_wp2
    go_ret
    exact ⟨by show Ending.returned (.int .i64 (wrap64 (1048576 - (n : Int)))) = _; rw [hw], rfl⟩
  · rw [if_neg hm]
    obtain ⟨y, hy⟩ : ∃ y, 1048576 - (n : Int) = y := ⟨_, rfl⟩
    replace hw := hw.trans hy
    have e0 : decide (y < 0) = true := decide_eq_true (by omega)
    clear hm hy hn
    go_enter Try.func38, Try.ntmps38
    go_wp2
    go_ret
    exact ⟨rfl, rfl⟩

set_option maxHeartbeats 8000000 in
theorem lawEnergy (A0 : Option Addr) (c0 : Nat) (l0 : List S2) (w : World) (hr0 : Kd.C kd2 w A0 l0.length l0) (hc0 : l0.length ≤ c0) :
    Calls Try.prog 11 #[.slice A0 l0.length c0] w fun e w' => e = .returned (.bool true) ∧ Below w.heap.size w w' := by
  have HR0 := Aside0.mk hr0
  have HC0 := Aside0.mk hc0
  have HN := Aside0.mk hr0.2.1
  clear hr0 hc0
  have HB := Aside0.mk (Below.refl w.heap.size w)
  by_cases hm : l0.length ≤ 1048576
  · have hi : (if l0.length ≤ 1048576 then 1048576 - (l0.length : Int) else -1) = 1048576 - (l0.length : Int) := if_pos hm
    obtain ⟨y, hy⟩ : ∃ y, 1048576 - (l0.length : Int) = y := ⟨_, rfl⟩
    replace hi := hi.trans hy
    have e0 : decide (y < 0) = false := decide_eq_false (by omega)
    have HM := Aside0.mk hm
    have HI := Aside0.mk hi
    clear hm hy hi
    go_enter Try.func11, Try.ntmps11
    go_wp2_with (first
      | (go_at_call 38; refine (sz_any _ _ _ _ HN.out _ HI.out).mono ?_; rintro e w' ⟨rfl, rfl⟩)
      | (go_at_call 40; refine (toS_reads _ _ l0 _ (by repeat (first | exact HR0.out | refine Kd.C_alloc ?_ _ | refine Kd.C_drewN ?_ _)) HC0.out HM.out).mono ?_; rintro e w' ⟨A, c, rfl, hl, hC, hb⟩; replace HR0 := Aside0.mk (Kd.C_below (by repeat (first | exact HR0.out | refine Kd.C_alloc ?_ _ | refine Kd.C_drewN ?_ _)) hb); replace HB := Aside0.mk (below_step (by repeat (first | (with_reducible first | exact HB.out | apply below_alloc | apply pw_below_drewN | apply below_drew1) | exact HB.out)) hb); (try replace HR2 := Aside0.mk (Kd.C_below (by repeat (first | exact HR2.out | refine Kd.C_alloc ?_ _ | refine Kd.C_drewN ?_ _)) hb)); first | (have z := HR2; clear z; have HR3 := Aside0.mk hC) | (have z := hs'; clear z; have HC2 := Aside0.mk hl; have HR2 := Aside0.mk hC) | (have HC1 := Aside0.mk hl; have HR1 := Aside0.mk hC); clear hC hb hl)
      | (go_at_call 39; refine (specEn_any _ _ _ _ HR1.out HC1.out HM.out).mono ?_; rintro e w' ⟨rs, rfl, hs, ls, hb⟩; have hs' := Lib.hid hs; replace HB := Aside0.mk (below_step (by repeat (first | (with_reducible first | exact HB.out | apply below_alloc | apply pw_below_drewN | apply below_drew1) | exact HB.out)) hb); replace HR0 := Aside0.mk (Kd.C_below (by repeat (first | exact HR0.out | refine Kd.C_alloc ?_ _ | refine Kd.C_drewN ?_ _)) hb); clear hs ls HR1 hb)
      | (go_at_call 41; refine (implEn_any _ _ _ _ HR2.out HC2.out HM.out).mono ?_; rintro e w' ⟨ri, rfl, hi, li, hb⟩; have q1 := sfB_of (hi.trans hs'.out.symm); replace HB := Aside0.mk (below_step (by repeat (first | (with_reducible first | exact HB.out | apply below_alloc | apply pw_below_drewN | apply below_drew1) | exact HB.out)) hb); replace HR0 := Aside0.mk (Kd.C_below (by repeat (first | exact HR0.out | refine Kd.C_alloc ?_ _ | refine Kd.C_drewN ?_ _)) hb); replace HR2 := Aside0.mk (Kd.C_below (by repeat (first | exact HR2.out | refine Kd.C_alloc ?_ _ | refine Kd.C_drewN ?_ _)) hb); clear hi li hb)
      | (go_at_call 32; refine (sameFloat_any _ _ _).mono ?_; rintro e w' ⟨rfl, n, rfl⟩)
      | (go_at_call 42; refine (eqS_any _ _ _ _ l0 _ (by repeat (first | exact HR2.out | refine Kd.C_alloc ?_ _ | refine Kd.C_drewN ?_ _)) (by repeat (first | exact HR3.out | refine Kd.C_alloc ?_ _ | refine Kd.C_drewN ?_ _)) HM.out).mono ?_; rintro e w' ⟨rfl, hb⟩; replace HB := Aside0.mk (below_step (by repeat (first | (with_reducible first | exact HB.out | apply below_alloc | apply pw_below_drewN | apply below_drew1) | exact HB.out)) hb); clear hb))
    go_ret
    exact ⟨rfl, by repeat (first | (with_reducible first | exact HB.out | apply below_alloc | apply pw_below_drewN | apply below_drew1) | exact HB.out)⟩
  · have HI := Aside0.mk (show (if l0.length ≤ 1048576 then 1048576 - (l0.length : Int) else -1) = -1 from if_neg hm)
    clear hm
    go_enter Try.func11, Try.ntmps11
    go_wp2_with (first | (go_at_call 38; go_loud (first | (refine (sz_any _ _ _ _ HN.out _ HI.out).mono ?_; rintro e w' ⟨rfl, rfl⟩))))
    go_ret
    exact ⟨rfl, Below.refl _ _⟩
end Go.Proofs.Ytbgacfjocjcffaa.Fy
