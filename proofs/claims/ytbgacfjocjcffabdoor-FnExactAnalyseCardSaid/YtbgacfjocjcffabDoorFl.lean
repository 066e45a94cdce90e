/-
  Rows of float64: how they are read and made, and the contracts of toFloat64S and eqFloat64S.
  Conditions: the row's length is at most 2^20.
-/
import Derived.Test.YtbgacfjocjcffabDoorFp
import Derived.Test.YtbgacfjocjcffabDoorWMore
import Derived.Deep.LoopGhost
import Derived.OpenShut
import Derived.Deep.Slices
namespace Go.Proofs.YtbgacfjocjcffabDoor.Fl
open Go Go.RowKit Go.Proofs.YtbgacfjocjcffabDoor.Fk Go.Proofs.YtbgacfjocjcffabDoor.Qs Go.Proofs.YtbgacfjocjcffabDoor.Fw Go.Proofs.YtbgacfjocjcffabDoor.Fc
open Go.Proofs.YtbgacfjocjcffabDoorW.PrintWords Go.Proofs.YtbgacfjocjcffabDoorW.PrintLast Go.Proofs.YtbgacfjocjcffabDoorW.PrintMore
set_option linter.unusedVariables false
set_option linter.unusedSimpArgs false

attribute [local go_sem] Fp.run_store_float Fp.drewN_setCell Fp.drewN_alloc

abbrev flt : Kd Nat := Kd.scalar (Value.float .f64) (fun _ => rfl)
theorem at_flt {w : World} {A : Option Addr} {n : Nat} {xs : List Nat} (h : flt.C w A n xs) (i : Int) (h0 : 0 ≤ i) (h1 : i < n) : ∃ ad, A = some ad ∧ w.cell? (ad.add i.toNat) = some (.float .f64 (rdOf 0 xs i)) :=
  ReadsOf.at_ (Kd.reads_of_C (enc := Value.float .f64) (d := (0 : Nat)) (h1 := fun _ => rfl) h) i h0 h1

theorem set_step {α : Type} (l : List α) (z z' : α) {i k : Nat} (h : i + (k + 1) = l.length) : (l.take i ++ List.replicate (k + 1) z).set i (l.getD i z') = l.take (i + 1) ++ List.replicate k z := by
  have hi : i < l.length := by omega
  rw [List.set_append_right _ _ (by rw [List.length_take]; omega), List.length_take, show i - min i l.length = 0 from by omega, List.replicate_succ, List.set_cons_zero, List.getD_eq_getElem?_getD, List.getElem?_eq_getElem hi, List.take_add_one, List.getElem?_eq_getElem hi, List.append_assoc]
  rfl

theorem info22 : (Tryd.prog.info? 22).map (fun i => (i.zero, i.size, i.bytes)) = some (some (.float .f64 0), 1, 8) := by kernel_rfl

theorem quiet_add {P : Program} {f : FuncId} {args : Array Value} {w : World} {m n : Nat} {v : Value}
    (h : Calls P f args (w.drewN (m + n)) fun e w' => e = .returned v ∧ ∃ k, w' = (w.drewN (m + n)).drewN k) : Calls P f args (w.drewN (m + n)) fun e w'' => e = .returned v ∧ ∃ k, w'' = w.drewN (m + k) :=
  h.mono fun _ _ ⟨he, k, hk⟩ => ⟨he, n + k, by rw [hk, World.drewN_drewN, Nat.add_assoc]⟩

theorem wrap_next {x : Int} (h0 : 0 ≤ x) (h : x < 4611686018427387904) : wrap64 (x + 1) = x + 1 := by
  unfold wrap64
  omega

set_option maxRecDepth 100000 in
theorem toF_any (A0 : Option Addr) (c0 : Nat) (l0 : List Nat) (w : World) (hr0 : flt.C w A0 l0.length l0) (hc0 : l0.length ≤ c0) (hm : l0.length ≤ 1048576) :
    Calls Tryd.prog 18 #[.slice A0 l0.length c0] w fun e w' => ∃ v0_ : Value, e = .returned (v0_) ∧ Kd.R flt 22 w' w.heap.size (fun _ => True) v0_ l0 ∧ Below w.heap.size w w' := by
  have HR0 := Aside0.mk hr0
  have HC0 := Aside0.mk hc0
  have HM := Aside0.mk hm
  clear hr0 hc0 hm
  have HB := Aside0.mk (Below.refl w.heap.size w)
  obtain ⟨y108, hy108⟩ : ∃ y_ : List Nat, y_ = (List.replicate ((l0.length : Int) : Int).toNat 0) := ⟨_, rfl⟩
  have Ny108 := Aside0.mk hy108
  clear hy108
  have c2b1 : decide (0 ≤ (l0.length : Int)) = true := decide_eq_true (by omega)
  go_enter Tryd.func18, Tryd.ntmps18
  go_wp2_with (first | ((with_reducible refine gate_dst (N := 7) rfl ?_); refine Kd.R_make flt _ 22 rfl (N := 7) rfl 36 _ _ rfl (l0.length : Int) rfl rfl Tryd.underlying36 (.float .f64 0) 8 info22 rfl (by decide) (by omega) 0 (ok := fun _ => True) (okp := fun _ => True) rfl (fun _ hk => hk) trivial (by omega) (by have := HM.out; omega) (Below.refl _ _) (Nat.le_refl _) ?_; intro v109 w4 ho5 hb hg_ hnew_; clear hg_ hnew_; (first | rw [← Ny108.out] at ho5 | (simp only [Int.reduceToNat] at ho5; rw [← Ny108.out] at ho5)); have n0_ := Aside0.mk (Kd.R_lower ho5 (below_size (by repeat (first | (with_reducible first | exact HB.out | apply below_alloc | apply pw_below_drewN | apply below_drew1) | exact HB.out)))); have n1_ := Aside0.mk (below_step (by repeat (first | (with_reducible first | exact HB.out | apply below_alloc | apply pw_below_drewN | apply below_drew1) | exact HB.out)) hb); clear HB; have HO110 := n0_; have HB := n1_; clear n0_ n1_; clear hb ho5))
  go_loopg [4] l0.length (fun kq v4 w' => ∃ (x4_1 : Int), v4 = .int .i64 x4_1 ∧ Aside0 (0 ≤ x4_1 ∧ x4_1.toNat + kq = l0.length) ∧ Aside0 (Kd.R flt 22 w' w.heap.size (fun _ => True) v109 (l0.take x4_1.toNat ++ List.replicate kq 0)) ∧ Aside0 (Below w.heap.size w w'))
  case atStart => exact ⟨0, rfl, ⟨by omega, by simp⟩, ⟨by (with_reducible repeat (first | apply Kd.R_alloc | apply Kd.R_drewN | apply Kd.R_drew)); rw [Ny108.out] at HO110; simpa using HO110.out⟩, ⟨by repeat (first | (with_reducible first | exact HB.out | apply below_alloc | apply pw_below_drewN | apply below_drew1) | exact HB.out)⟩⟩
  case round =>
    try clear p2
    obtain ⟨x4_1, rfl, HX, HO_3, HB⟩ := hrel
    have hlen : (l0.take x4_1.toNat ++ List.replicate gk 0).length = l0.length := by have := HX.out; simp; omega
    cases gk with
    | zero =>
      have c6b0 : decide (x4_1 < (l0.length : Int)) = false := decide_eq_false (by have := HX.out; omega)
      have he : (l0.take x4_1.toNat ++ List.replicate 0 0) = l0 := by have := HX.out; rw [List.take_of_length_le (by omega)]; simp
      rw [he] at HO_3
      clear he hlen
      go_wp2
      go_ret
      exact ⟨_, by first | rfl | (simp; done) | (simp [*]; done), by (with_reducible repeat (first | apply Kd.R_alloc | apply Kd.R_drewN | apply Kd.R_drew)); exact HO_3.out, by repeat (first | (with_reducible first | exact HB.out | apply below_alloc | apply pw_below_drewN | apply below_drew1) | exact HB.out)⟩
    | succ k1 =>
      obtain ⟨p111, hx⟩ := HX.out
      have q111 : x4_1 < (l0.length : Int) := by omega
      have c6b0 : decide (x4_1 < (l0.length : Int)) = true := decide_eq_true q111
      have c7b0 : decide (0 ≤ x4_1) = true := decide_eq_true p111
      obtain ⟨y112, hy112⟩ : ∃ y_ : List Nat, y_ = ((l0.take x4_1.toNat ++ List.replicate (k1 + 1) 0).set (x4_1 : Int).toNat (rdOf 0 l0 x4_1)) := ⟨_, rfl⟩
      have Ny112 := Aside0.mk hy112
      have hz : y112 = l0.take (x4_1 + 1).toNat ++ List.replicate k1 0 := by
        rw [hy112, show (x4_1 + 1).toNat = x4_1.toNat + 1 from by omega]
        exact set_step l0 0 0 (by omega)
      have HZ := Aside0.mk hz
      clear hz hy112
      obtain ⟨ad111, e111, hx111_0⟩ := at_flt HR0.out x4_1 p111 q111
      cases e111
      replace hx111_0 := (HB.out.cell (World.block_lt_of_cell? w _ hx111_0)).trans hx111_0
      have hw1 : wrap64 (x4_1 + 1) = x4_1 + 1 := wrap_next p111 (by have := HM.out; omega)
      have HW1 := Aside0.mk hw1
      clear hw1
      have HXX := Aside0.mk hx
      clear hx
      obtain ⟨y3, hy3⟩ : ∃ y_ : List Nat, y_ = (l0.take x4_1.toNat ++ List.replicate (k1 + 1) 0) := ⟨_, rfl⟩
      rw [← hy3] at HO_3 hlen Ny112
      have q9 : (x4_1 : Int) < ((y3.length : Int) : Int) := by omega
      have c9b0 : decide ((x4_1 : Int) < ((y3.length : Int) : Int)) = true := decide_eq_true q9
      clear hy3
      obtain ⟨go9, co9, eo9, gb9, gl9, cl9, HG9⟩ := Kd.R_form HO_3.out (by omega)
      (first | cases eo9 | (injection eo9 with ea_ en_ ec_; (first | subst ea_ | (injection ea_ with ea_; subst ea_)); subst ec_; clear en_))
      have GB9 := Aside0.mk gb9
      have GG9 := Aside0.mk HG9
      clear gb9 gl9 HG9
      obtain ⟨hx9_0, hf9_0⟩ := Kd.R_celln 0 HO_3.out (x4_1 : Int) p111 q9
      replace p111 := eq_true p111
      replace q111 := eq_true q111
      replace q9 := eq_true q9
      clear hlen
      have HP10 := Kd.R_putg HO_3.out (x4_1 : Int) (rdOf 0 l0 x4_1)
      go_wp2_with (first | ((with_reducible refine gate_store (t := 22) (p := 20) rfl ?_); refine store_event (t := 22) (p := 20) (v := ?vo_w11) (w1 := (wr.setCell ⟨go9, (x4_1 : Int).toNat, none⟩ (.float .f64 (rdOf 0 l0 x4_1)))) ?hg ?ho ?hn ?hr ?_; (case ho => rfl); (case hg => rfl); (case hn => rfl); (case hr => first | (go_simp; done) | (go_simp; rfl)); intro w11 hw; have hg : wr.grownBy w11 (some go9) := (by rw [hw]; exact HP10.2); have hp_ : Kd.R flt 22 w11 w.heap.size (fun _ => True) (.slice (some ⟨go9, 0, none⟩) y3.length co9) y112 := (by rw [hw, Ny112.out]; exact HP10.1); clear HP10; have n0_ := Aside0.mk (hp_); have n1_ := Aside0.mk ((by rw [hw]; exact below_set (HB.out) GB9.out : Below w.heap.size w w11)); clear HO_3; clear HB; have HO_3 := n0_; have HB := n1_; clear n0_ n1_; clear hg hw hp_))
      go_roundg k1
      case measure => omega
      case rel => exact ⟨x4_1 + 1, by rw [HW1.out], ⟨by have := HX.out; omega, by have := HX.out; omega⟩, ⟨by rw [← HZ.out]; exact HO_3.out⟩, ⟨HB.out⟩⟩

theorem toF_reads (A0 : Option Addr) (c0 : Nat) (l0 : List Nat) (w : World) (hr0 : flt.C w A0 l0.length l0) (hc0 : l0.length ≤ c0) (hm : l0.length ≤ 1048576) :
    Calls Tryd.prog 18 #[.slice A0 l0.length c0] w fun e w' => ∃ A c, e = .returned (.slice A l0.length c) ∧ l0.length ≤ c ∧ flt.C w' A l0.length l0 ∧ Below w.heap.size w w' := by
  refine (toF_any A0 c0 l0 w hr0 hc0 hm).mono ?_
  rintro e w' ⟨v, rfl, ho, hb⟩
  obtain ⟨A, c, rfl, hl, hC⟩ := Kd.R_reads ho
  exact ⟨A, c, rfl, hl, hC, hb⟩

set_option maxRecDepth 100000 in
theorem eqF_any (A0 : Option Addr) (c0 : Nat) (A1 : Option Addr) (c1 : Nat) (l0 : List Nat) (w : World) (hr0 : flt.C w A0 l0.length l0) (hr1 : flt.C w A1 l0.length l0) (hm : l0.length ≤ 1048576) :
    Calls Tryd.prog 20 #[.slice A0 l0.length c0, .slice A1 l0.length c1] w fun e w' => e = .returned (.bool true) ∧ Drawn0 w w' := by
  have HR0 := Aside0.mk hr0
  have HR1 := Aside0.mk hr1
  have HM := Aside0.mk hm
  clear hr0 hr1 hm
  go_enter Tryd.func20, Tryd.ntmps20
  go_wp2
  go_loopg [5] l0.length (fun kq v5 w' => ∃ (x : Int), v5 = .int .i64 x ∧ Aside0 (0 ≤ x ∧ x.toNat + kq = l0.length) ∧ Drawn0 w w')
  case atStart => exact ⟨0, rfl, ⟨by omega, by simp⟩, Drawn0.refl _⟩
  case round =>
    try clear p2
    obtain ⟨x, rfl, HX, ⟨m1, rfl⟩⟩ := hrel
    cases gk with
    | zero =>
      have c6b0 : decide (x < (l0.length : Int)) = false := decide_eq_false (by have := HX.out; omega)
      go_wp2
      go_ret
      exact ⟨rfl, by repeat (first | exact Drawn0.refl _ | apply Drawn0.step)⟩
    | succ k1 =>
      obtain ⟨p111, hx⟩ := HX.out
      have q111 : x < (l0.length : Int) := by omega
      have c6b0 : decide (x < (l0.length : Int)) = true := decide_eq_true q111
      obtain ⟨ad111, e111, hx111_0⟩ := at_flt HR0.out x p111 q111
      cases e111
      obtain ⟨ad112, e112, hx112_0⟩ := at_flt HR1.out x p111 q111
      cases e112
      have HW1 := Aside0.mk (wrap_next p111 (by have := HM.out; omega) : wrap64 (x + 1) = x + 1)
      have q1 := sfB_self (can (rdOf 0 l0 x))
      clear hx
      replace p111 := eq_true p111
      replace q111 := eq_true q111
      go_wp2
      go_quiet (first | (go_at_call 23; refine quiet_add (sameFloat_any _ _ _)))
      go_wp2
      go_roundg k1
      case measure => omega
      case rel => exact ⟨x + 1, by rw [HW1.out], ⟨by have := HX.out; omega, by have := HX.out; omega⟩, by repeat (first | exact Drawn0.refl _ | apply Drawn0.step)⟩
end Go.Proofs.YtbgacfjocjcffabDoor.Fl
