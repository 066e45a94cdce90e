/-
  Contracts of Highs (both sides) and of markFloat64S; the law of Highs.
  Conditions: the row's length is at most 2^20 where it is copied.
-/
import Derived.Test.YtbgacfjocjcffaaFl
import Derived.Test.YtbgacfjocjcffaaPFnExactHighsx1
namespace Go.Proofs.Ytbgacfjocjcffaa.Fg
open Go Go.RowKit Go.Proofs.Ytbgacfjocjcffaa.Fk Go.Proofs.Ytbgacfjocjcffaa.Qs Go.Proofs.Ytbgacfjocjcffaa.Fw Go.Proofs.Ytbgacfjocjcffaa.Fc Go.Proofs.Ytbgacfjocjcffaa.Fp Go.Proofs.Ytbgacfjocjcffaa.Fl
open Go.Proofs.YtbgacfjocjcffaaW.PrintWords Go.Proofs.YtbgacfjocjcffaaW.PrintLast Go.Proofs.YtbgacfjocjcffaaW.PrintMore
set_option linter.unusedVariables false
set_option linter.unusedSimpArgs false


def gtB (a b : Nat) : Bool := FloatKind.f64.format.order a b == some .gt
def hiB (l : List Nat) (x : Int) : Bool := (FloatKind.f64.format.order (rdOf 0 l x) (rdOf 0 l (x - 1)) == some .gt) && (FloatKind.f64.format.order (rdOf 0 l x) (rdOf 0 l (x + 1)) == some .gt || FloatKind.f64.format.order (rdOf 0 l x) (rdOf 0 l (x + 1)) == some .eq)
/-- The highs among the places 1 .. j. -/
def hs (l : List Nat) : Nat → List Int
  | 0 => []
  | j + 1 => if hiB l ((j : Int) + 1) then hs l j ++ [(j : Int) + 1] else hs l j
theorem hs_length (l : List Nat) : ∀ j, (hs l j).length ≤ j
  | 0 => Nat.le_refl _
  | j + 1 => by
    have := hs_length l j
    unfold hs
    split
    · simp; omega
    · omega
def HS (l : List Nat) : List Int := if l.length ≤ 4000 then hs l (l.length - 2) else []
theorem info2 : (Try.prog.info? 2).map (fun i => (i.zero, i.size, i.bytes)) = some (some (.int .i64 0), 1, 8) := by kernel_rfl
theorem wrap_small {x : Int} (h0 : -4611686018427387904 ≤ x) (h : x < 4611686018427387904) : wrap64 x = x := by
  unfold wrap64
  omega

set_option maxHeartbeats 8000000 in
set_option maxRecDepth 100000 in
theorem specHighs_any (A0 : Option Addr) (c0 : Nat) (l0 : List Nat) (w : World) (hr0 : flt.C w A0 l0.length l0) (hc0 : l0.length ≤ c0) (hm : l0.length ≤ 1048576) :
    Calls Try.prog 51 #[.slice A0 l0.length c0] w fun e w' => ∃ v0_ : Value, e = .returned v0_ ∧ Kd.R (Kd.int .i64) 2 w' w.heap.size (fun _ => True) v0_ (HS l0) ∧ Below w.heap.size w w' := by
  have HR0 := Aside0.mk hr0
  have HC0 := Aside0.mk hc0
  have HM := Aside0.mk hm
  clear hr0 hc0 hm
  have HB := Aside0.mk (Below.refl w.heap.size w)
  by_cases hm : l0.length ≤ 4000
  · have e0 : decide ((l0.length : Int) ≤ 4000) = true := decide_eq_true (by omega)
    have e1 : decide (l0.length ≤ 4000) = true := decide_eq_true hm
    have e2 : decide (4000 < (l0.length : Int)) = false := decide_eq_false (by omega)
    have e3 : decide (4000 < l0.length) = false := decide_eq_false (by omega)
    have HH := Aside0.mk (show HS l0 = hs l0 (l0.length - 2) by unfold HS; rw [if_pos hm])
    replace hm := Aside0.mk hm
    go_enter Try.func51, Try.ntmps51
    go_wp2_with (first | ((with_reducible refine gate_dst (N := 5) rfl ?_); refine Kd.R_lit (Kd.int .i64) _ 2 ?hg (N := 5) ?hd (xs := ([] : List Int)) (inner := []) (ok := fun _ => True) (okp := fun _ => True) ?hr ?hp (fun _ hk => hk) trivial (Below.refl _ _) (Nat.le_refl _) (by simp) ?_; (case hd => rfl); (case hg => rfl); (case hr => first | (go_simp; done) | (go_simp; rfl)); (case hp => exact (Reps.none _ _)); intro v106 w5 ho6 hb hg_ hnew_; clear hg_ hnew_; have n0_ := Aside0.mk (Kd.R_lower ho6 (below_size (by repeat (first | (with_reducible first | exact HB.out | apply below_alloc | apply pw_below_drewN | apply below_drew1) | exact HB.out)))); have n2_ := Aside0.mk (below_step (by repeat (first | (with_reducible first | exact HB.out | apply below_alloc | apply pw_below_drewN | apply below_drew1) | exact HB.out)) hb); clear HB; have HO := n0_; have HB := n2_; clear n0_ n2_; clear hb ho6))
    go_loopg [3, 4] (l0.length - 2) (fun kq v3 v4 w' => ∃ (x : Int), v4 = .int .i64 x ∧ Aside0 (1 ≤ x ∧ (x.toNat - 1) + kq = l0.length - 2) ∧ Aside0 (Kd.R (Kd.int .i64) 2 w' w.heap.size (fun _ => True) v3 (hs l0 (x.toNat - 1))) ∧ Aside0 (Below w.heap.size w w'))
    case atStart => exact ⟨1, rfl, ⟨by omega, by omega⟩, ⟨by (with_reducible repeat (first | apply Kd.R_alloc | apply Kd.R_drewN | apply Kd.R_drew)); exact HO.out⟩, ⟨by repeat (first | (with_reducible first | exact HB.out | apply below_alloc | apply pw_below_drewN | apply below_drew1) | exact HB.out)⟩⟩
    case round =>
      try clear p2
      clear HO HB
      obtain ⟨x, rfl, HX, HO, HB⟩ := hrel
      obtain ⟨xp, hxp⟩ : ∃ y, wrap64 (x + 1) = y := ⟨_, rfl⟩
      have hxp' := Aside0.mk (show xp = x + 1 by rw [← hxp]; have := HX.out; have := hm.out; exact wrap_small (by omega) (by omega))
      cases gk with
      | zero =>
        have c6b0 : decide (xp < (l0.length : Int)) = false := decide_eq_false (by have := HX.out; have := hxp'.out; omega)
        go_wp2
        go_ret
        have hx : x.toNat - 1 = l0.length - 2 := by have := HX.out; omega
        exact ⟨_, rfl, by (with_reducible repeat (first | apply Kd.R_alloc | apply Kd.R_drewN | apply Kd.R_drew)); rw [HH.out, ← hx]; exact HO.out, by repeat (first | (with_reducible first | exact HB.out | apply below_alloc | apply pw_below_drewN | apply below_drew1) | exact HB.out)⟩
      | succ k1 =>
        obtain ⟨xm, hxm⟩ : ∃ y, wrap64 (x - 1) = y := ⟨_, rfl⟩
        have hxm' := Aside0.mk (show xm = x - 1 by rw [← hxm]; have := HX.out; have := hm.out; exact wrap_small (by omega) (by omega))
        have hxx := HX.out
        have hz := hm.out
        have p0 : 0 ≤ x := by omega
        have q0 : x < (l0.length : Int) := by omega
        have p1 : 0 ≤ xm := by have := hxm'.out; omega
        have q1 : xm < (l0.length : Int) := by have := hxm'.out; omega
        have p2 : 0 ≤ xp := by have := hxp'.out; omega
        have q2 : xp < (l0.length : Int) := by have := hxp'.out; omega
        have c6b0 : decide (xp < (l0.length : Int)) = true := decide_eq_true q2
        have HXL := Aside0.mk (show (hs l0 (x.toNat - 1)).length ≤ 4000 by have := hs_length l0 (x.toNat - 1); omega)
        have HN := Aside0.mk (show hs l0 ((x + 1).toNat - 1) = if hiB l0 x then hs l0 (x.toNat - 1) ++ [x] else hs l0 (x.toNat - 1) by
          rw [show (x + 1).toNat - 1 = (x.toNat - 1) + 1 from by omega, hs, show (((x.toNat - 1 : Nat) : Int) + 1) = x from by omega])
        clear hxx hz
        obtain ⟨ad, ea, h1⟩ := at_flt HR0.out x p0 q0
        cases ea
        obtain ⟨ad', ea, h2⟩ := at_flt HR0.out xm p1 q1
        cases ea
        obtain ⟨ad', ea, h3⟩ := at_flt HR0.out xp p2 q2
        cases ea
        replace h1 := (HB.out.cell (World.block_lt_of_cell? w _ h1)).trans h1
        replace h2 := (HB.out.cell (World.block_lt_of_cell? w _ h2)).trans h2
        replace h3 := (HB.out.cell (World.block_lt_of_cell? w _ h3)).trans h3
        have HD := Aside0.mk (show hiB l0 x = ((FloatKind.f64.format.order (rdOf 0 l0 x) (rdOf 0 l0 xm) == some .gt) && (FloatKind.f64.format.order (rdOf 0 l0 x) (rdOf 0 l0 xp) == some .gt || FloatKind.f64.format.order (rdOf 0 l0 x) (rdOf 0 l0 xp) == some .eq)) by rw [hxm'.out, hxp'.out]; rfl)
        replace p0 := eq_true p0
        replace q0 := eq_true q0
        replace p1 := eq_true p1
        replace q1 := eq_true q1
        replace p2 := eq_true p2
        replace q2 := eq_true q2
        obtain ⟨Ao, co, eo⟩ := Kd.R_slice HO.out
        subst eo
        cases d1 : (FloatKind.f64.format.order (rdOf 0 l0 x) (rdOf 0 l0 xm) == some .gt)
        · have HN2 := Aside0.mk (show hs l0 ((x + 1).toNat - 1) = hs l0 (x.toNat - 1) by rw [HN.out, HD.out, d1]; rfl)
          clear HN HD
          go_wp2
          go_quiet (fail)
          go_wp2
          go_roundg k1
          case measure => omega
          case rel => exact ⟨x + 1, by first | rw [hxp, hxp'.out] | rw [hxp'.out], ⟨by have := HX.out; omega, by have := HX.out; omega⟩, ⟨by (with_reducible repeat (first | apply Kd.R_alloc | apply Kd.R_drewN | apply Kd.R_drew)); rw [HN2.out]; exact HO.out⟩, ⟨by repeat (first | (with_reducible first | exact HB.out | apply below_alloc | apply pw_below_drewN | apply below_drew1) | exact HB.out)⟩⟩
        · cases d2 : (FloatKind.f64.format.order (rdOf 0 l0 x) (rdOf 0 l0 xp) == some .gt || FloatKind.f64.format.order (rdOf 0 l0 x) (rdOf 0 l0 xp) == some .eq)
          · have HN2 := Aside0.mk (show hs l0 ((x + 1).toNat - 1) = hs l0 (x.toNat - 1) by rw [HN.out, HD.out, d1, d2]; rfl)
            clear HN HD
            go_wp2
            go_quiet (fail)
            go_wp2
            go_roundg k1
            case measure => omega
            case rel => exact ⟨x + 1, by first | rw [hxp, hxp'.out] | rw [hxp'.out], ⟨by have := HX.out; omega, by have := HX.out; omega⟩, ⟨by (with_reducible repeat (first | apply Kd.R_alloc | apply Kd.R_drewN | apply Kd.R_drew)); rw [HN2.out]; exact HO.out⟩, ⟨by repeat (first | (with_reducible first | exact HB.out | apply below_alloc | apply pw_below_drewN | apply below_drew1) | exact HB.out)⟩⟩
          · have HN2 := Aside0.mk (show hs l0 ((x + 1).toNat - 1) = hs l0 (x.toNat - 1) ++ [x] by rw [HN.out, HD.out, d1, d2]; rfl)
            clear HN HD
            go_wp2
            go_quiet (fail)
            go_wp2_with (first | ((with_reducible refine gate_builtin (b := .append) (xs := #[.tmp 40, .tmp 42]) rfl ?_); at_builtin; refine Kd.R_append (Kd.int .i64) (w0 := w) w.heap.size rfl (.tmp 40) (.tmp 42) 58 2 (.int .i64 0) 8 rfl Try.underlying58 info2 rfl (by decide) (by omega) (.slice Ao (hs l0 (x.toNat - 1)).length co) (hs l0 (x.toNat - 1)) x [.int .i64 x] (fun _ => True) (fun _ => False) rfl rfl ?aP (fun _ hk => hk.elim) ?aF ?aO ?aB ?aS ?aL ?_; (case aP => exact rfl); (case aB => exact (by repeat (first | (with_reducible first | exact HB.out | apply below_alloc | apply pw_below_drewN | apply below_drew1) | exact HB.out))); (case aF => exact (fun _ _ => trivial)); (case aO => exact (by (with_reducible repeat (first | apply Kd.R_alloc | apply Kd.R_drewN | apply Kd.R_drew)); exact HO.out)); (case aS => exact (below_size (by repeat (first | (with_reducible first | exact HB.out | apply below_alloc | apply pw_below_drewN | apply below_drew1) | exact HB.out)))); (case aL => have := HXL.out; omega); intro v114 w26 ho hb hg hat; rw [← HN2.out] at ho; have n1_ := Aside0.mk (hb); have n2_ := Aside0.mk (ho); clear HB; clear HO; have HB := n1_; have HO := n2_; clear n1_ n2_; clear ho hb hg hat))
            go_roundg k1
            case measure => omega
            case rel => exact ⟨x + 1, by first | rw [hxp, hxp'.out] | rw [hxp'.out], ⟨by have := HX.out; omega, by have := HX.out; omega⟩, ⟨by (with_reducible repeat (first | apply Kd.R_alloc | apply Kd.R_drewN | apply Kd.R_drew)); exact HO.out⟩, ⟨by repeat (first | (with_reducible first | exact HB.out | apply below_alloc | apply pw_below_drewN | apply below_drew1) | exact HB.out)⟩⟩
  · have e0 : decide ((l0.length : Int) ≤ 4000) = false := decide_eq_false (by omega)
    have e1 : decide (l0.length ≤ 4000) = false := decide_eq_false hm
    have e2 : decide (4000 < (l0.length : Int)) = true := decide_eq_true (by omega)
    have e3 : decide (4000 < l0.length) = true := decide_eq_true (by omega)
    rw [show HS l0 = [] by unfold HS; rw [if_neg hm]]
    have e4 : decide ((2 : Int) < (l0.length : Int)) = true := decide_eq_true (by omega)
    have e5 : decide (2 < l0.length) = true := decide_eq_true (by omega)
    clear hm
    go_enter Try.func51, Try.ntmps51
    go_wp2_with (first | ((with_reducible refine gate_dst (N := 5) rfl ?_); refine Kd.R_lit (Kd.int .i64) _ 2 ?hg (N := 5) ?hd (xs := ([] : List Int)) (inner := []) (ok := fun _ => True) (okp := fun _ => True) ?hr ?hp (fun _ hk => hk) trivial (Below.refl _ _) (Nat.le_refl _) (by simp) ?_; (case hd => rfl); (case hg => rfl); (case hr => first | (go_simp; done) | (go_simp; rfl)); (case hp => exact (Reps.none _ _)); intro v106 w5 ho6 hb hg_ hnew_; clear hg_ hnew_; have n0_ := Aside0.mk (Kd.R_lower ho6 (below_size (by repeat (first | (with_reducible first | exact HB.out | apply below_alloc | apply pw_below_drewN | apply below_drew1) | exact HB.out)))); have n2_ := Aside0.mk (below_step (by repeat (first | (with_reducible first | exact HB.out | apply below_alloc | apply pw_below_drewN | apply below_drew1) | exact HB.out)) hb); clear HB; have HO := n0_; have HB := n2_; clear n0_ n2_; clear hb ho6))
    go_loopg [3, 4] 0 (fun kq v3 v4 w' => v3 = v106 ∧ v4 = .int .i64 1 ∧ Aside0 (Kd.R (Kd.int .i64) 2 w' w.heap.size (fun _ => True) v106 []) ∧ Aside0 (Below w.heap.size w w'))
    case atStart => exact ⟨rfl, rfl, ⟨by (with_reducible repeat (first | apply Kd.R_alloc | apply Kd.R_drewN | apply Kd.R_drew)); exact HO.out⟩, ⟨by repeat (first | (with_reducible first | exact HB.out | apply below_alloc | apply pw_below_drewN | apply below_drew1) | exact HB.out)⟩⟩
    case round =>
      try clear p2
      clear HO HB
      obtain ⟨rfl, rfl, HO, HB⟩ := hrel
      go_wp2
      go_ret
      exact ⟨_, rfl, by (with_reducible repeat (first | apply Kd.R_alloc | apply Kd.R_drewN | apply Kd.R_drew)); exact HO.out, by repeat (first | (with_reducible first | exact HB.out | apply below_alloc | apply pw_below_drewN | apply below_drew1) | exact HB.out)⟩

set_option maxHeartbeats 8000000 in
set_option maxRecDepth 100000 in
theorem implHighs_any (A0 : Option Addr) (c0 : Nat) (l0 : List Nat) (w : World) (hr0 : flt.C w A0 l0.length l0) (hc0 : l0.length ≤ c0) (hm : l0.length ≤ 1048576) :
    Calls Try.prog 52 #[.slice A0 l0.length c0] w fun e w' => ∃ v0_ : Value, e = .returned v0_ ∧ Kd.R (Kd.int .i64) 2 w' w.heap.size (fun _ => True) v0_ (HS l0) ∧ Below w.heap.size w w' := by
  have HR0 := Aside0.mk hr0
  have HC0 := Aside0.mk hc0
  have HM := Aside0.mk hm
  clear hr0 hc0 hm
  have HB := Aside0.mk (Below.refl w.heap.size w)
  by_cases hm : l0.length ≤ 4000
  · have e0 : decide ((l0.length : Int) ≤ 4000) = true := decide_eq_true (by omega)
    have e1 : decide (l0.length ≤ 4000) = true := decide_eq_true hm
    have e2 : decide (4000 < (l0.length : Int)) = false := decide_eq_false (by omega)
    have e3 : decide (4000 < l0.length) = false := decide_eq_false (by omega)
    have HH := Aside0.mk (show HS l0 = hs l0 (l0.length - 2) by unfold HS; rw [if_pos hm])
    replace hm := Aside0.mk hm
    go_enter Try.func52, Try.ntmps52
    go_wp2_with (first | ((with_reducible refine gate_dst (N := 8) rfl ?_); refine Kd.R_lit (Kd.int .i64) _ 2 ?hg (N := 8) ?hd (xs := ([] : List Int)) (inner := []) (ok := fun _ => True) (okp := fun _ => True) ?hr ?hp (fun _ hk => hk) trivial (Below.refl _ _) (Nat.le_refl _) (by simp) ?_; (case hd => rfl); (case hg => rfl); (case hr => first | (go_simp; done) | (go_simp; rfl)); (case hp => exact (Reps.none _ _)); intro v106 w5 ho6 hb hg_ hnew_; clear hg_ hnew_; have n0_ := Aside0.mk (Kd.R_lower ho6 (below_size (by repeat (first | (with_reducible first | exact HB.out | apply below_alloc | apply pw_below_drewN | apply below_drew1) | exact HB.out)))); have n2_ := Aside0.mk (below_step (by repeat (first | (with_reducible first | exact HB.out | apply below_alloc | apply pw_below_drewN | apply below_drew1) | exact HB.out)) hb); clear HB; have HO := n0_; have HB := n2_; clear n0_ n2_; clear hb ho6))
    go_loopg [3, 4] (l0.length - 2) (fun kq v3 v4 w' => ∃ (x : Int), v4 = .int .i64 x ∧ Aside0 (1 ≤ x ∧ (x.toNat - 1) + kq = l0.length - 2) ∧ Aside0 (Kd.R (Kd.int .i64) 2 w' w.heap.size (fun _ => True) v3 (hs l0 (x.toNat - 1))) ∧ Aside0 (Below w.heap.size w w'))
    case atStart => exact ⟨1, rfl, ⟨by omega, by omega⟩, ⟨by (with_reducible repeat (first | apply Kd.R_alloc | apply Kd.R_drewN | apply Kd.R_drew)); exact HO.out⟩, ⟨by repeat (first | (with_reducible first | exact HB.out | apply below_alloc | apply pw_below_drewN | apply below_drew1) | exact HB.out)⟩⟩
    case round =>
      try clear p2
      clear HO HB
      obtain ⟨x, rfl, HX, HO, HB⟩ := hrel
      obtain ⟨xp, hxp⟩ : ∃ y, wrap64 (x + 1) = y := ⟨_, rfl⟩
      have hxp' := Aside0.mk (show xp = x + 1 by rw [← hxp]; have := HX.out; have := hm.out; exact wrap_small (by omega) (by omega))
      cases gk with
      | zero =>
        have c6b0 : decide (xp < (l0.length : Int)) = false := decide_eq_false (by have := HX.out; have := hxp'.out; omega)
        go_wp2
        go_ret
        have hx : x.toNat - 1 = l0.length - 2 := by have := HX.out; omega
        exact ⟨_, rfl, by (with_reducible repeat (first | apply Kd.R_alloc | apply Kd.R_drewN | apply Kd.R_drew)); rw [HH.out, ← hx]; exact HO.out, by repeat (first | (with_reducible first | exact HB.out | apply below_alloc | apply pw_below_drewN | apply below_drew1) | exact HB.out)⟩
      | succ k1 =>
        obtain ⟨xm, hxm⟩ : ∃ y, wrap64 (x - 1) = y := ⟨_, rfl⟩
        have hxm' := Aside0.mk (show xm = x - 1 by rw [← hxm]; have := HX.out; have := hm.out; exact wrap_small (by omega) (by omega))
        have hxx := HX.out
        have hz := hm.out
        have p0 : 0 ≤ x := by omega
        have q0 : x < (l0.length : Int) := by omega
        have p1 : 0 ≤ xm := by have := hxm'.out; omega
        have q1 : xm < (l0.length : Int) := by have := hxm'.out; omega
        have p2 : 0 ≤ xp := by have := hxp'.out; omega
        have q2 : xp < (l0.length : Int) := by have := hxp'.out; omega
        have c6b0 : decide (xp < (l0.length : Int)) = true := decide_eq_true q2
        have HXL := Aside0.mk (show (hs l0 (x.toNat - 1)).length ≤ 4000 by have := hs_length l0 (x.toNat - 1); omega)
        have HN := Aside0.mk (show hs l0 ((x + 1).toNat - 1) = if hiB l0 x then hs l0 (x.toNat - 1) ++ [x] else hs l0 (x.toNat - 1) by
          rw [show (x + 1).toNat - 1 = (x.toNat - 1) + 1 from by omega, hs, show (((x.toNat - 1 : Nat) : Int) + 1) = x from by omega])
        clear hxx hz
        obtain ⟨ad, ea, h1⟩ := at_flt HR0.out x p0 q0
        cases ea
        obtain ⟨ad', ea, h2⟩ := at_flt HR0.out xm p1 q1
        cases ea
        obtain ⟨ad', ea, h3⟩ := at_flt HR0.out xp p2 q2
        cases ea
        replace h1 := (HB.out.cell (World.block_lt_of_cell? w _ h1)).trans h1
        replace h2 := (HB.out.cell (World.block_lt_of_cell? w _ h2)).trans h2
        replace h3 := (HB.out.cell (World.block_lt_of_cell? w _ h3)).trans h3
        have HD := Aside0.mk (show hiB l0 x = ((FloatKind.f64.format.order (rdOf 0 l0 x) (rdOf 0 l0 xm) == some .gt) && (FloatKind.f64.format.order (rdOf 0 l0 x) (rdOf 0 l0 xp) == some .gt || FloatKind.f64.format.order (rdOf 0 l0 x) (rdOf 0 l0 xp) == some .eq)) by rw [hxm'.out, hxp'.out]; rfl)
        replace p0 := eq_true p0
        replace q0 := eq_true q0
        replace p1 := eq_true p1
        replace q1 := eq_true q1
        replace p2 := eq_true p2
        replace q2 := eq_true q2
        obtain ⟨Ao, co, eo⟩ := Kd.R_slice HO.out
        subst eo
        cases d1 : (FloatKind.f64.format.order (rdOf 0 l0 x) (rdOf 0 l0 xm) == some .gt)
        · have HN2 := Aside0.mk (show hs l0 ((x + 1).toNat - 1) = hs l0 (x.toNat - 1) by rw [HN.out, HD.out, d1]; rfl)
          clear HN HD
          go_wp2
          go_quiet (fail)
          go_wp2
          go_roundg k1
          case measure => omega
          case rel => exact ⟨x + 1, by first | rw [hxp, hxp'.out] | rw [hxp'.out], ⟨by have := HX.out; omega, by have := HX.out; omega⟩, ⟨by (with_reducible repeat (first | apply Kd.R_alloc | apply Kd.R_drewN | apply Kd.R_drew)); rw [HN2.out]; exact HO.out⟩, ⟨by repeat (first | (with_reducible first | exact HB.out | apply below_alloc | apply pw_below_drewN | apply below_drew1) | exact HB.out)⟩⟩
        · cases d2 : (FloatKind.f64.format.order (rdOf 0 l0 x) (rdOf 0 l0 xp) == some .gt || FloatKind.f64.format.order (rdOf 0 l0 x) (rdOf 0 l0 xp) == some .eq)
          · have HN2 := Aside0.mk (show hs l0 ((x + 1).toNat - 1) = hs l0 (x.toNat - 1) by rw [HN.out, HD.out, d1, d2]; rfl)
            clear HN HD
            go_wp2
            go_quiet (fail)
            go_wp2
            go_roundg k1
            case measure => omega
            case rel => exact ⟨x + 1, by first | rw [hxp, hxp'.out] | rw [hxp'.out], ⟨by have := HX.out; omega, by have := HX.out; omega⟩, ⟨by (with_reducible repeat (first | apply Kd.R_alloc | apply Kd.R_drewN | apply Kd.R_drew)); rw [HN2.out]; exact HO.out⟩, ⟨by repeat (first | (with_reducible first | exact HB.out | apply below_alloc | apply pw_below_drewN | apply below_drew1) | exact HB.out)⟩⟩
          · have HN2 := Aside0.mk (show hs l0 ((x + 1).toNat - 1) = hs l0 (x.toNat - 1) ++ [x] by rw [HN.out, HD.out, d1, d2]; rfl)
            clear HN HD
            go_wp2
            go_quiet (fail)
            go_wp2_with (first | ((with_reducible refine gate_builtin (b := .append) (xs := #[.tmp 38, .tmp 40]) rfl ?_); at_builtin; refine Kd.R_append (Kd.int .i64) (w0 := w) w.heap.size rfl (.tmp 38) (.tmp 40) 58 2 (.int .i64 0) 8 rfl Try.underlying58 info2 rfl (by decide) (by omega) (.slice Ao (hs l0 (x.toNat - 1)).length co) (hs l0 (x.toNat - 1)) x [.int .i64 x] (fun _ => True) (fun _ => False) rfl rfl ?aP (fun _ hk => hk.elim) ?aF ?aO ?aB ?aS ?aL ?_; (case aP => exact rfl); (case aB => exact (by repeat (first | (with_reducible first | exact HB.out | apply below_alloc | apply pw_below_drewN | apply below_drew1) | exact HB.out))); (case aF => exact (fun _ _ => trivial)); (case aO => exact (by (with_reducible repeat (first | apply Kd.R_alloc | apply Kd.R_drewN | apply Kd.R_drew)); exact HO.out)); (case aS => exact (below_size (by repeat (first | (with_reducible first | exact HB.out | apply below_alloc | apply pw_below_drewN | apply below_drew1) | exact HB.out)))); (case aL => have := HXL.out; omega); intro v114 w26 ho hb hg hat; rw [← HN2.out] at ho; have n1_ := Aside0.mk (hb); have n2_ := Aside0.mk (ho); clear HB; clear HO; have HB := n1_; have HO := n2_; clear n1_ n2_; clear ho hb hg hat))
            go_roundg k1
            case measure => omega
            case rel => exact ⟨x + 1, by first | rw [hxp, hxp'.out] | rw [hxp'.out], ⟨by have := HX.out; omega, by have := HX.out; omega⟩, ⟨by (with_reducible repeat (first | apply Kd.R_alloc | apply Kd.R_drewN | apply Kd.R_drew)); exact HO.out⟩, ⟨by repeat (first | (with_reducible first | exact HB.out | apply below_alloc | apply pw_below_drewN | apply below_drew1) | exact HB.out)⟩⟩
  · have e0 : decide ((l0.length : Int) ≤ 4000) = false := decide_eq_false (by omega)
    have e1 : decide (l0.length ≤ 4000) = false := decide_eq_false hm
    have e2 : decide (4000 < (l0.length : Int)) = true := decide_eq_true (by omega)
    have e3 : decide (4000 < l0.length) = true := decide_eq_true (by omega)
    rw [show HS l0 = [] by unfold HS; rw [if_neg hm]]
    clear hm
    go_enter Try.func52, Try.ntmps52
    go_wp2
    go_ret
    exact ⟨_, rfl, Kd.R_nil _ _ _ _ _, Below.refl _ _⟩
end Go.Proofs.Ytbgacfjocjcffaa.Fg
