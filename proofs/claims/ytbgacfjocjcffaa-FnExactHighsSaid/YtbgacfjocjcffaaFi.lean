/-
  The contract of markFloat64S; the law of Highs.
  Conditions: the row's length is at most 2^20 where it is copied.
-/
import Derived.Test.YtbgacfjocjcffaaFg
namespace Go.Proofs.Ytbgacfjocjcffaa.Fi
open Go Go.RowKit Go.Proofs.Ytbgacfjocjcffaa.Fk Go.Proofs.Ytbgacfjocjcffaa.Qs Go.Proofs.Ytbgacfjocjcffaa.Fw Go.Proofs.Ytbgacfjocjcffaa.Fc Go.Proofs.Ytbgacfjocjcffaa.Fp Go.Proofs.Ytbgacfjocjcffaa.Fl Go.Proofs.Ytbgacfjocjcffaa.Fg
open Go.Proofs.YtbgacfjocjcffaaW.PrintWords Go.Proofs.YtbgacfjocjcffaaW.PrintLast Go.Proofs.YtbgacfjocjcffaaW.PrintMore Go.Proofs.Ytbgacfjocjcffaa.PFnExactHighs
set_option linter.unusedVariables false
set_option linter.unusedSimpArgs false
attribute [local go_sem] Fp.run_store_float Fp.drewN_setCell Fp.drewN_alloc

theorem rd_nat {xs : List Int} {i : Nat} (h : i < xs.length) : rd xs (i : Int) = xs[i] := by
  unfold rd; rw [Int.toNat_natCast, List.getD_eq_getElem?_getD, List.getElem?_eq_getElem h]; rfl
theorem wrap_nat {i : Nat} (h : i < 9223372036854775807) : wrap64 ((i : Int) + 1) = ((i + 1 : Nat) : Int) := by
  unfold wrap64; omega

theorem eqInts_l0 (xs : List Int) (hn : xs.length ≤ 140737488351232) : ∀ (d k i : Nat), i + d = xs.length → d < k → laws_eqInt64S.l0 k xs xs (i : Int) = some true := by
  intro d
  induction d with
  | zero =>
    intro k i hi hk
    obtain ⟨k, rfl⟩ : ∃ m, k = m + 1 := ⟨k - 1, by omega⟩
    simp only [laws_eqInt64S.l0]
    rw [if_neg (by omega)]
  | succ d ih =>
    intro k i hi hk
    obtain ⟨k, rfl⟩ : ∃ m, k = m + 1 := ⟨k - 1, by omega⟩
    simp only [laws_eqInt64S.l0]
    rw [if_pos (by omega), if_pos (by omega), if_pos (by omega), if_pos trivial, wrap_nat (by omega)]
    exact ih k (i + 1) (by omega) (by omega)
theorem eqInts (xs : List Int) (k : Nat) (hn : xs.length ≤ 140737488351232) (hk : xs.length < k) : laws_eqInt64S.f k xs xs = some true := by
  unfold laws_eqInt64S.f
  rw [if_pos rfl]
  exact eqInts_l0 xs hn xs.length k 0 (by omega) hk

/-- the numbers from 1 on -/
def marks (n : Nat) : List Int := (List.range n).map fun (i : Nat) => ((i + 1 : Nat) : Int)
theorem marks_length (n : Nat) : (marks n).length = n := by simp [marks]
theorem marks_at {n i : Nat} (h : i < (marks n).length) : (marks n)[i] = ((i + 1 : Nat) : Int) := by simp [marks]
theorem mark_l0 (n : Nat) (hn : n ≤ 140737488351232) : ∀ (d k i : Nat) (ys : List Int), i + d = n → d < k → ys.length = n → ys.take i = (marks n).take i → laws_markInt64S.l0 k ys ((i + 1 : Nat) : Int) (i : Int) = some (((n + 1 : Nat) : Int), marks n) := by
  intro d
  induction d with
  | zero =>
    intro k i ys hi hk hl ht
    obtain ⟨k, rfl⟩ : ∃ m, k = m + 1 := ⟨k - 1, by omega⟩
    rw [List.take_of_length_le (by omega), List.take_of_length_le (by rw [marks_length]; omega)] at ht
    simp only [laws_markInt64S.l0]
    rw [if_neg (by omega), ht, show i = n from by omega]
  | succ d ih =>
    intro k i ys hi hk hl ht
    obtain ⟨k, rfl⟩ : ∃ m, k = m + 1 := ⟨k - 1, by omega⟩
    simp only [laws_markInt64S.l0]
    rw [if_pos (by omega), if_pos (by omega), wrap_nat (by omega), wrap_nat (by omega), Int.toNat_natCast]
    refine ih k (i + 1) _ (by omega) (by omega) (by rw [List.length_set]; exact hl) ?_
    rw [List.take_succ_eq_append_getElem (by rw [List.length_set]; omega), List.take_succ_eq_append_getElem (by rw [marks_length]; omega), List.take_set_of_le (Nat.le_refl i), ht, List.getElem_set_self, marks_at]
theorem mark (ys : List Int) (k : Nat) (hn : ys.length ≤ 140737488351232) (hk : ys.length < k) : laws_markInt64S.f k ys 1 = some (((ys.length + 1 : Nat) : Int), marks ys.length) :=
  mark_l0 ys.length hn ys.length k 0 ys (by omega) hk rfl rfl
theorem held_l0 (n : Nat) (hn : n ≤ 140737488351232) : ∀ (d k i : Nat), i + d = n → d < k → laws_heldInt64S.l0 k (marks n) ((i + 1 : Nat) : Int) (i : Int) = some ((n + 1 : Nat) : Int) := by
  intro d
  induction d with
  | zero =>
    intro k i hi hk
    obtain ⟨k, rfl⟩ : ∃ m, k = m + 1 := ⟨k - 1, by omega⟩
    simp only [laws_heldInt64S.l0]
    rw [if_neg (by rw [marks_length]; omega), show i = n from by omega]
  | succ d ih =>
    intro k i hi hk
    obtain ⟨k, rfl⟩ : ∃ m, k = m + 1 := ⟨k - 1, by omega⟩
    have hlt : i < (marks n).length := by rw [marks_length]; omega
    simp only [laws_heldInt64S.l0]
    rw [if_pos (by rw [marks_length]; omega), if_pos (by omega), rd_nat hlt, marks_at, if_pos rfl, wrap_nat (by omega), wrap_nat (by omega)]
    exact ih k (i + 1) (by omega) (by omega)
theorem held (n k : Nat) (hn : n ≤ 140737488351232) (hk : n < k) : laws_heldInt64S.f k (marks n) 1 = some ((n + 1 : Nat) : Int) := held_l0 n hn n k 0 (by omega) hk


theorem R_range {α : Type} {d : Kd α} {e base : Nat} {w : World} {v : Value} {xs : List α} (h : d.R e w base (fun _ => True) v xs) (P : Nat → Prop) (hP : ∀ k, base ≤ k → k < w.heap.size → P k) : d.R e w base P v xs :=
  Kd.R_mono (Kd.R_bound h) fun k hk => hP k hk.2.1 hk.2.2.1
theorem R_kept {α : Type} {d : Kd α} {e base : Nat} {w w1 : World} {P S : Nat → Prop} {v : Value} {xs : List α} (h : d.R e w base P v xs) (hk : Kept w w1 S) (hne : ∀ k, P k → ¬ S k) : d.R e w1 base P v xs :=
  Kd.R_step h fun k ho hlt => hk.2 k hlt (hne k ho)
theorem HS_length (l : List Nat) : (HS l).length ≤ 4000 := by
  unfold HS
  split
  · have := hs_length l (l.length - 2); omega
  · simp

set_option maxHeartbeats 8000000 in
set_option maxRecDepth 100000 in
theorem markF_any (P0_ : Nat → Prop) (u9000_ : Value) (l0 : List Nat) (w0 w : World) (hB : Below w0.heap.size w0 w) (ho0 : Kd.R flt 22 w w0.heap.size P0_ u9000_ l0) (hm : l0.length ≤ 1048576) :
    Calls Try.prog 54 #[u9000_, .int .i64 1] w fun e w' => e = .returned (.int .i64 ((l0.length : Int) + 1)) ∧ Below w0.heap.size w0 w' ∧ Kept w w' (fun k_ => P0_ k_) := by
  have HO0 := Aside0.mk (show Kd.R flt 22 w w0.heap.size (fun k_ => (P0_ k_ ∨ w.heap.size ≤ k_)) u9000_ l0 from Kd.R_mono ho0 (fun k_ hk => (.inl hk)))
  have HK := Aside0.mk (Kept.refl w (fun k_ => P0_ k_))
  have HM := Aside0.mk hm
  have HB := Aside0.mk hB
  clear hB hm ho0
  go_enter Try.func54, Try.ntmps54
  go_wp2
  go_loopg [1, 5] l0.length (fun kq v1 v5 w' => ∃ (ys : List Nat) (y x : Int), v1 = .int .i64 y ∧ v5 = .int .i64 x ∧ Aside0 (0 ≤ x ∧ y = x + 1 ∧ x.toNat + kq = l0.length ∧ ys.length = l0.length) ∧ Aside0 (Kd.R flt 22 w' w0.heap.size (fun k_ => (P0_ k_ ∨ w.heap.size ≤ k_)) u9000_ ys) ∧ Aside0 (Kept w w' (fun k_ => P0_ k_)) ∧ Aside0 (Below w0.heap.size w0 w'))
  case atStart => exact ⟨l0, 1, 0, rfl, rfl, ⟨by omega, by omega, by omega, rfl⟩, ⟨by (with_reducible repeat (first | apply Kd.R_alloc | apply Kd.R_drewN | apply Kd.R_drew)); exact HO0.out⟩, ⟨by repeat (first | (with_reducible first | exact HK.out | apply Kept.alloc | apply Kept.drewN | apply Kept.drew) | exact HK.out)⟩, ⟨by repeat (first | (with_reducible first | exact HB.out | apply below_alloc | apply pw_below_drewN | apply below_drew1) | exact HB.out)⟩⟩
  case round =>
    try clear p2
    clear HO0 HK HB
    obtain ⟨ys, y, x, rfl, rfl, HX, HO_0, HK, HB⟩ := hrel
    obtain ⟨Ao6, co6, eo6⟩ := Kd.R_slice HO_0.out
    subst eo6
    cases gk with
    | zero =>
      have c6b0 : decide (x < (ys.length : Int)) = false := decide_eq_false (by have := HX.out; omega)
      go_wp2
      go_ret
      exact ⟨by have := HX.out; show Ending.returned (.int .i64 y) = _; rw [show y = (l0.length : Int) + 1 from by omega], by repeat (first | (with_reducible first | exact HB.out | apply below_alloc | apply pw_below_drewN | apply below_drew1) | exact HB.out), by repeat (first | (with_reducible first | exact HK.out | apply Kept.alloc | apply Kept.drewN | apply Kept.drew) | exact HK.out)⟩
    | succ k1 =>
      obtain ⟨p5, hy, hx, hl⟩ := HX.out
      have q5 : x < ((ys.length : Int) : Int) := by omega
      have c6b0 : decide (x < (ys.length : Int)) = true := decide_eq_true q5
      have HW1 := Aside0.mk (wrap_next p5 (by have := HM.out; omega) : wrap64 (x + 1) = x + 1)
      have HW2 := Aside0.mk (wrap_next (x := y) (by omega) (by have := HM.out; omega) : wrap64 (y + 1) = y + 1)
      have HYS := Aside0.mk (show 0 < ys.length by omega)
      clear hx hl hy
      obtain ⟨go5, co5, eo5, gb5, gl5, cl5, HG5⟩ := Kd.R_form HO_0.out HYS.out
      (first | cases eo5 | (injection eo5 with ea_ en_ ec_; (first | subst ea_ | (injection ea_ with ea_; subst ea_)); subst ec_; clear en_))
      have GB5 := Aside0.mk gb5
      clear gb5 gl5 HG5
      obtain ⟨hx5_0, hf5_0⟩ := Kd.R_celln 0 HO_0.out x p5 q5
      replace p5 := eq_true p5
      replace q5 := eq_true q5
      have HP7 := Kd.R_putg HO_0.out x (floatOfInt FloatKind.f64 y)
      go_wp2_with (first | ((with_reducible refine gate_store (t := 22) (p := 16) rfl ?_); refine store_event (t := 22) (p := 16) (v := ?vo_w8) (w1 := (wr.setCell ⟨go5, x.toNat, none⟩ (.float .f64 (floatOfInt FloatKind.f64 y)))) ?hg ?ho ?hn ?hr ?_; (case ho => rfl); (case hg => rfl); (case hn => rfl); (case hr => first | (go_simp; done) | (go_simp; rfl)); intro w8 hw; have hg : wr.grownBy w8 (some go5) := (by rw [hw]; exact HP7.2); have hp_ : Kd.R flt 22 w8 w0.heap.size (fun k_ => (P0_ k_ ∨ w.heap.size ≤ k_)) (.slice (some ⟨go5, 0, none⟩) ys.length co6) (ys.set x.toNat (floatOfInt FloatKind.f64 y)) := (by rw [hw]; exact HP7.1); clear HP7; have n0_ := Aside0.mk (hp_); have n1_ := Aside0.mk ((by rw [hw]; exact below_set (HB.out) GB5.out : Below w0.heap.size w0 w8)); have n2_ := Aside0.mk (Kept.of_grown (S := (fun k_ => P0_ k_)) hg (by repeat (first | (with_reducible first | exact HK.out | apply Kept.alloc | apply Kept.drewN | apply Kept.drew) | exact HK.out)) (fun k_ e_ => (HO_0.out.1 k_ e_))); clear HO_0; clear HB; clear HK; have HO_0 := n0_; have HB := n1_; have HK := n2_; clear n0_ n1_ n2_; clear hg hw hp_))
      go_roundg k1
      case measure => omega
      case rel => exact ⟨ys.set x.toNat (floatOfInt FloatKind.f64 y), y + 1, x + 1, by rw [HW2.out], by rw [HW1.out], ⟨by have := HX.out; omega, by have := HX.out; omega, by have := HX.out; omega, by have := HX.out; rw [List.length_set]; omega⟩, ⟨by (with_reducible repeat (first | apply Kd.R_alloc | apply Kd.R_drewN | apply Kd.R_drew)); exact HO_0.out⟩, ⟨by repeat (first | (with_reducible first | exact HK.out | apply Kept.alloc | apply Kept.drewN | apply Kept.drew) | exact HK.out)⟩, ⟨by repeat (first | (with_reducible first | exact HB.out | apply below_alloc | apply pw_below_drewN | apply below_drew1) | exact HB.out)⟩⟩

theorem held_any {A : Option Addr} {c n : Nat} {w : World} (h : Kd.C (Kd.int .i64) w A n (marks n)) (hc : n ≤ c) (hn : n ≤ 4000) : Calls Try.prog 56 #[.slice A n c, .int .i64 1] w fun e w' => e = .returned (.int .i64 (((n + 1 : Nat) : Int))) ∧ Drawn0 w w' := by
  have h1 := laws_heldInt64S.calls (n + 1) A c (marks n) 1 (((n + 1 : Nat) : Int)) w (by rw [marks_length]; exact h) (by rw [marks_length]; exact hc) (held n (n + 1) (by omega) (by omega))
  rw [marks_length] at h1
  exact h1
theorem R_C {e base n c : Nat} {w : World} {P : Nat → Prop} {A : Option Addr} (h : Kd.R (Kd.int .i64) e w base P (.slice A n c) (marks n)) : Kd.C (Kd.int .i64) w A n (marks n) := by
  have h1 := (Kd.R_reads' h).2.2
  rw [marks_length] at h1
  exact h1
theorem R_true {α : Type} {d : Kd α} {e base : Nat} {w : World} {P : Nat → Prop} {v : Value} {xs : List α} (h : d.R e w base P v xs) : d.R e w base (fun _ => True) v xs := Kd.R_mono h fun _ _ => trivial

set_option maxHeartbeats 16000000 in
set_option maxRecDepth 100000 in
theorem lawHighs (A0 : Option Addr) (c0 : Nat) (l0 : List Nat) (w : World) (hr0 : flt.C w A0 l0.length l0) (hc0 : l0.length ≤ c0) :
    Calls Try.prog 15 #[.slice A0 l0.length c0] w fun e w' => e = .returned (.bool true) ∧ Below w.heap.size w w' := by
  have HRW := Aside0.mk hr0
  have HR0 := Aside0.mk hr0
  have HC0 := Aside0.mk hc0
  clear hr0 hc0
  have HB := Aside0.mk (Below.refl w.heap.size w)
  have hle := HS_length l0
  have HE := Aside0.mk (eqInts (HS l0) ((HS l0).length + 1) (by omega) (by omega))
  have HE2 := Aside0.mk (mark (HS l0) ((HS l0).length + 1) (by omega) (by omega))
  have HLE := Aside0.mk hle
  clear hle
  by_cases hm : (l0.length : Int) > 1048576
  · have c3b0 : decide (1048576 < (l0.length : Int)) = true := decide_eq_true hm
    have c3b1 : decide (1048576 < l0.length) = true := decide_eq_true (by omega)
    clear hm
    go_enter Try.func15, Try.ntmps15
    go_wp2
    go_ret
    exact ⟨rfl, Below.refl _ _⟩
  · have c3b0 : decide (1048576 < (l0.length : Int)) = false := decide_eq_false hm
    have c3b1 : decide (1048576 < l0.length) = false := decide_eq_false (by omega)
    have HM := Aside0.mk (show l0.length ≤ 1048576 by omega)
    have k0 : decide ((l0.length : Int) + 1 < 0) = false := decide_eq_false (by omega)
    have k1 : decide (((((HS l0).length + 1 : Nat) : Int)) < 0) = false := decide_eq_false (by omega)
    have k2 : decide ((((HS l0).length : Int)) + 1 < 0) = false := decide_eq_false (by omega)
    clear hm
    go_enter Try.func15, Try.ntmps15
    go_wp2_with (first
      | (go_at_call 51; refine (specHighs_any _ _ l0 _ HR1.out HC1.out HM.out).mono ?_; rintro e w1 ⟨vw, rfl, ho, hb⟩; have HWR := Aside0.mk (Kd.R_lower (R_range ho (fun k => k < w1.heap.size) (fun k _ h => h)) (below_size (by repeat (first | (with_reducible first | exact HB.out | apply below_alloc | apply pw_below_drewN | apply below_drew1) | exact HB.out)))); replace HR0 := Aside0.mk (Kd.C_below (by repeat (first | exact HR0.out | refine Kd.C_alloc ?_ _ | refine Kd.C_drewN ?_ _)) hb); replace HB := Aside0.mk (below_step (by repeat (first | (with_reducible first | exact HB.out | apply below_alloc | apply pw_below_drewN | apply below_drew1) | exact HB.out)) hb); obtain ⟨Aw, cw, ew⟩ := Kd.R_slice HWR.out; subst ew; clear ho hb HR1 HC1)
      | (go_at_call 44; have z := HMR; clear z; refine (toF_any _ _ l0 _ (by repeat (first | exact HR0.out | refine Kd.C_alloc ?_ _ | refine Kd.C_drewN ?_ _)) HC0.out HM.out).mono ?_; rintro e w' ⟨v, rfl, ho, hb⟩; obtain ⟨A4, c4, rfl, hl, hC⟩ := Kd.R_reads ho; replace HWR := Aside0.mk (Kd.R_below (by (with_reducible repeat (first | apply Kd.R_alloc | apply Kd.R_drewN | apply Kd.R_drew)); exact HWR.out) hb); replace HMR := Aside0.mk (Kd.R_below (by (with_reducible repeat (first | apply Kd.R_alloc | apply Kd.R_drewN | apply Kd.R_drew)); exact HMR.out) hb); replace HR0 := Aside0.mk (Kd.C_below (by repeat (first | exact HR0.out | refine Kd.C_alloc ?_ _ | refine Kd.C_drewN ?_ _)) hb); replace HB := Aside0.mk (below_step (by repeat (first | (with_reducible first | exact HB.out | apply below_alloc | apply pw_below_drewN | apply below_drew1) | exact HB.out)) hb); have HR4 := Aside0.mk hC; have HC4 := Aside0.mk hl; clear ho hb hl hC)
      | (go_at_call 44; have z := HGR; clear z; refine (toF_any _ _ l0 _ (by repeat (first | exact HR0.out | refine Kd.C_alloc ?_ _ | refine Kd.C_drewN ?_ _)) HC0.out HM.out).mono ?_; rintro e w' ⟨v, rfl, ho, hb⟩; obtain ⟨A3, c3, rfl, hl, hC⟩ := Kd.R_reads ho; replace HWR := Aside0.mk (Kd.R_below (by (with_reducible repeat (first | apply Kd.R_alloc | apply Kd.R_drewN | apply Kd.R_drew)); exact HWR.out) hb); replace HXR := Aside0.mk (Kd.R_below (by (with_reducible repeat (first | apply Kd.R_alloc | apply Kd.R_drewN | apply Kd.R_drew)); exact HXR.out) hb); replace HGR := Aside0.mk (Kd.R_below (by (with_reducible repeat (first | apply Kd.R_alloc | apply Kd.R_drewN | apply Kd.R_drew)); exact HGR.out) hb); replace HR0 := Aside0.mk (Kd.C_below (by repeat (first | exact HR0.out | refine Kd.C_alloc ?_ _ | refine Kd.C_drewN ?_ _)) hb); replace HB := Aside0.mk (below_step (by repeat (first | (with_reducible first | exact HB.out | apply below_alloc | apply pw_below_drewN | apply below_drew1) | exact HB.out)) hb); have HR3 := Aside0.mk hC; have HC3 := Aside0.mk hl; clear ho hb hl hC)
      | (go_at_call 44; have z := HWR; clear z; refine (toF_any _ _ l0 _ (by repeat (first | exact HR0.out | refine Kd.C_alloc ?_ _ | refine Kd.C_drewN ?_ _)) HC0.out HM.out).mono ?_; rintro e w2 ⟨vx, rfl, ho, hb⟩; have HXR := Aside0.mk (Kd.R_lower (R_range ho (fun k => w1.heap.size ≤ k ∧ k < w2.heap.size) (fun k h1 h2 => ⟨h1, h2⟩)) (below_size (by repeat (first | (with_reducible first | exact HB.out | apply below_alloc | apply pw_below_drewN | apply below_drew1) | exact HB.out)))); replace HWR := Aside0.mk (Kd.R_below (by (with_reducible repeat (first | apply Kd.R_alloc | apply Kd.R_drewN | apply Kd.R_drew)); exact HWR.out) hb); replace HR0 := Aside0.mk (Kd.C_below (by repeat (first | exact HR0.out | refine Kd.C_alloc ?_ _ | refine Kd.C_drewN ?_ _)) hb); replace HB := Aside0.mk (below_step (by repeat (first | (with_reducible first | exact HB.out | apply below_alloc | apply pw_below_drewN | apply below_drew1) | exact HB.out)) hb); have HS12 := Aside0.mk hb.size; obtain ⟨Ax, cx, ex⟩ := Kd.R_slice HXR.out; subst ex; clear ho hb)
      | (go_at_call 44; refine (toF_any _ _ l0 _ (by repeat (first | exact HR0.out | refine Kd.C_alloc ?_ _ | refine Kd.C_drewN ?_ _)) HC0.out HM.out).mono ?_; rintro e w' ⟨v, rfl, ho, hb⟩; obtain ⟨A1, c1, rfl, hl, hC⟩ := Kd.R_reads ho; replace HR0 := Aside0.mk (Kd.C_below (by repeat (first | exact HR0.out | refine Kd.C_alloc ?_ _ | refine Kd.C_drewN ?_ _)) hb); replace HB := Aside0.mk (below_step (by repeat (first | (with_reducible first | exact HB.out | apply below_alloc | apply pw_below_drewN | apply below_drew1) | exact HB.out)) hb); have HR1 := Aside0.mk hC; have HC1 := Aside0.mk hl; clear ho hb hl hC)
      | (go_at_call 52; have z := HR4; clear z; refine (implHighs_any _ _ l0 _ (by repeat (first | exact HR4.out | refine Kd.C_alloc ?_ _ | refine Kd.C_drewN ?_ _)) HC4.out HM.out).mono ?_; rintro e w5 ⟨vh, rfl, ho, hb⟩; obtain ⟨Ah, ch, rfl, hl, hC⟩ := Kd.R_reads ho; replace HWR := Aside0.mk (Kd.R_below (by (with_reducible repeat (first | apply Kd.R_alloc | apply Kd.R_drewN | apply Kd.R_drew)); exact HWR.out) hb); replace HMR := Aside0.mk (Kd.R_below (by (with_reducible repeat (first | apply Kd.R_alloc | apply Kd.R_drewN | apply Kd.R_drew)); exact HMR.out) hb); replace HB := Aside0.mk (below_step (by repeat (first | (with_reducible first | exact HB.out | apply below_alloc | apply pw_below_drewN | apply below_drew1) | exact HB.out)) hb); have HHR := Aside0.mk hC; have HHL := Aside0.mk hl; clear ho hb hl hC)
      | (go_at_call 52; refine (implHighs_any _ _ l0 _ (by repeat (first | exact (Kd.R_reads' HXR.out).2.2 | refine Kd.C_alloc ?_ _ | refine Kd.C_drewN ?_ _)) (Kd.R_reads' HXR.out).2.1 HM.out).mono ?_; rintro e w3 ⟨vg, rfl, ho, hb⟩; have HGR := Aside0.mk (Kd.R_lower (R_range ho (fun k => w2.heap.size ≤ k) (fun k h1 h2 => h1)) (below_size (by repeat (first | (with_reducible first | exact HB.out | apply below_alloc | apply pw_below_drewN | apply below_drew1) | exact HB.out)))); replace HWR := Aside0.mk (Kd.R_below (by (with_reducible repeat (first | apply Kd.R_alloc | apply Kd.R_drewN | apply Kd.R_drew)); exact HWR.out) hb); replace HXR := Aside0.mk (Kd.R_below (by (with_reducible repeat (first | apply Kd.R_alloc | apply Kd.R_drewN | apply Kd.R_drew)); exact HXR.out) hb); replace HR0 := Aside0.mk (Kd.C_below (by repeat (first | exact HR0.out | refine Kd.C_alloc ?_ _ | refine Kd.C_drewN ?_ _)) hb); replace HB := Aside0.mk (below_step (by repeat (first | (with_reducible first | exact HB.out | apply below_alloc | apply pw_below_drewN | apply below_drew1) | exact HB.out)) hb); obtain ⟨Ag, cg, eg⟩ := Kd.R_slice HGR.out; subst eg; clear ho hb)
      | (go_at_call 53; have z := HHR; clear z; refine (laws_eqInt64S.calls ((HS l0).length + 1) _ _ (HS l0) _ _ (HS l0) true _ (by repeat (first | exact HHR.out | refine Kd.C_alloc ?_ _ | refine Kd.C_drewN ?_ _)) HHL.out (by repeat (first | exact (Kd.R_reads' HWR.out).2.2 | refine Kd.C_alloc ?_ _ | refine Kd.C_drewN ?_ _)) (Kd.R_reads' HWR.out).2.1 HE.out).mono ?_; rintro e w' ⟨rfl, nd, rfl⟩)
      | (go_at_call 53; refine (laws_eqInt64S.calls ((HS l0).length + 1) _ _ (HS l0) _ _ (HS l0) true _ (by repeat (first | exact (Kd.R_reads' HGR.out).2.2 | refine Kd.C_alloc ?_ _ | refine Kd.C_drewN ?_ _)) (Kd.R_reads' HGR.out).2.1 (by repeat (first | exact (Kd.R_reads' HWR.out).2.2 | refine Kd.C_alloc ?_ _ | refine Kd.C_drewN ?_ _)) (Kd.R_reads' HWR.out).2.1 HE.out).mono ?_; rintro e w' ⟨rfl, nd, rfl⟩)
      | (go_at_call 46; refine (eqF_any _ _ _ _ l0 _ (by repeat (first | exact (Kd.R_reads' HXR.out).2.2 | refine Kd.C_alloc ?_ _ | refine Kd.C_drewN ?_ _)) (by repeat (first | exact HR3.out | refine Kd.C_alloc ?_ _ | refine Kd.C_drewN ?_ _)) HM.out).mono ?_; rintro e w' ⟨rfl, nd, rfl⟩)
      | (go_at_call 54; refine (markF_any (fun k => w1.heap.size ≤ k ∧ k < w2.heap.size) _ l0 w _ (by repeat (first | (with_reducible first | exact HB.out | apply below_alloc | apply pw_below_drewN | apply below_drew1) | exact HB.out)) (by (with_reducible repeat (first | apply Kd.R_alloc | apply Kd.R_drewN | apply Kd.R_drew)); exact HXR.out) HM.out).mono ?_; rintro e w4 ⟨rfl, hb, hk⟩; replace HWR := Aside0.mk (R_kept (by (with_reducible repeat (first | apply Kd.R_alloc | apply Kd.R_drewN | apply Kd.R_drew)); exact HWR.out) hk (fun k h1 h2 => by have h3 := h2.1; omega)); replace HGR := Aside0.mk (R_kept (by (with_reducible repeat (first | apply Kd.R_alloc | apply Kd.R_drewN | apply Kd.R_drew)); exact HGR.out) hk (fun k h1 h2 => by have h3 := h2.2; omega)); replace HB := Aside0.mk hb; replace HR0 := Aside0.mk (Kd.C_below HRW.out hb); clear hb hk HXR)
      | (go_at_call 55; refine (laws_markInt64S.calls ((HS l0).length + 1) (fun k => w2.heap.size ≤ k) _ (HS l0) 1 ((((HS l0).length + 1 : Nat) : Int)) (marks (HS l0).length) w _ (by repeat (first | (with_reducible first | exact HB.out | apply below_alloc | apply pw_below_drewN | apply below_drew1) | exact HB.out)) (by (with_reducible repeat (first | apply Kd.R_alloc | apply Kd.R_drewN | apply Kd.R_drew)); exact HGR.out) HE2.out).mono ?_; rintro e w6 ⟨rfl, ho, hb, hk⟩; replace HWR := Aside0.mk (R_kept (by (with_reducible repeat (first | apply Kd.R_alloc | apply Kd.R_drewN | apply Kd.R_drew)); exact HWR.out) hk (fun k h1 h2 => by have h3 := HS12.out; omega)); have HMR := Aside0.mk (R_true ho); replace HB := Aside0.mk hb; replace HR0 := Aside0.mk (Kd.C_below HRW.out hb); clear ho hb hk HGR)
      | (go_at_call 56; refine (held_any (by repeat (first | exact R_C HMR.out | refine Kd.C_alloc ?_ _ | refine Kd.C_drewN ?_ _)) (Kd.R_reads' HMR.out).2.1 HLE.out).mono ?_; rintro e w' ⟨rfl, nd, rfl⟩))
    go_ret
    exact ⟨rfl, by repeat (first | (with_reducible first | exact HB.out | apply below_alloc | apply pw_below_drewN | apply below_drew1) | exact HB.out)⟩
end Go.Proofs.Ytbgacfjocjcffaa.Fi
