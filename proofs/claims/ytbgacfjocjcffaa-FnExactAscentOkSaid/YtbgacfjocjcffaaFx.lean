/-
  Rows of levels: toLevelS, eqLevelS.
  Conditions: the row's length is at most 2^20.
-/
import Derived.Test.YtbgacfjocjcffaaFl
import Derived.Test.YtbgacfjocjcffaaFe
namespace Go.Proofs.Ytbgacfjocjcffaa.Fx
open Go Go.RowKit Go.Proofs.Ytbgacfjocjcffaa.Fk Go.Proofs.Ytbgacfjocjcffaa.Qs Go.Proofs.Ytbgacfjocjcffaa.Fw Go.Proofs.Ytbgacfjocjcffaa.Fc Go.Proofs.Ytbgacfjocjcffaa.Fl
open Go.Proofs.YtbgacfjocjcffaaW.PrintWords Go.Proofs.YtbgacfjocjcffaaW.PrintLast Go.Proofs.YtbgacfjocjcffaaW.PrintMore
set_option linter.unusedVariables false
set_option linter.unusedSimpArgs false
attribute [local go_sem] Fp.run_store_float Fp.drewN_setCell Fp.drewN_alloc

theorem eqLevel_of (a : Int) (b : Nat) (w : World) : Calls Try.prog 75 #[Fe.lv a b, Fe.lv a b] w fun e w' => e = .returned (.bool true) ∧ Below w.heap.size w w' := by
  have q1 := sfB_self (can b)
  go_enter Try.func75, Try.ntmps75
  go_wp2_with (go_at_call 32; refine (sameFloat_any _ _ _).mono ?_; rintro e w' ⟨rfl, n, rfl⟩)
  go_ret
  exact ⟨rfl, Fp.draws (Joins.below_alloc2 _ _ _) _⟩

structure S2 where
  f0 : Int
  f1 : Nat
def z2 : S2 := ⟨0, 0⟩
def kd2 : Kd S2 := Kd.iso (Kd.pair (Kd.int .i64) flt) (fun x : S2 => (x.f0, x.f1))
theorem kd2_open {w : World} {x : S2} {cs : List Value} (h : kd2.K w x cs) : cs = [.int .i64 x.f0, .float .f64 x.f1] := by
  obtain ⟨_, _, rfl, rfl, rfl⟩ := h
  exact rfl
theorem kd2_openM {w : World} {base : Nat} {ok : Nat → Prop} {x : S2} {cs : List Value} (h : kd2.M w base ok x cs) : cs = [.int .i64 x.f0, .float .f64 x.f1] := by
  obtain ⟨_, _, rfl, rfl, rfl⟩ := h
  exact rfl
theorem kd2_mk (w : World) (x : S2) : kd2.K w x [.int .i64 x.f0, .float .f64 x.f1] := ⟨[.int .i64 x.f0], [.float .f64 x.f1], rfl, rfl, rfl⟩
theorem kd2_mkM (w : World) (base : Nat) (ok : Nat → Prop) (x : S2) : kd2.M w base ok x [.int .i64 x.f0, .float .f64 x.f1] := ⟨[.int .i64 x.f0], [.float .f64 x.f1], rfl, rfl, rfl⟩
def rdS (xs : List S2) (i : Int) : S2 := xs.getD i.toNat z2
theorem at_S {w : World} {A : Option Addr} {n : Nat} {xs : List S2} (h : Kd.C kd2 w A n xs) (i : Int) (h0 : 0 ≤ i) (h1 : i < n) : ∃ ad , A = some ad ∧ w.cell? (ad.add (i.toNat * 2)) = some (.int .i64 (rdS xs i).f0) ∧ w.cell? ⟨(ad.add (i.toNat * 2)).block, (ad.add (i.toNat * 2)).off + 1, none⟩ = some (.float .f64 (rdS xs i).f1) := by
  obtain ⟨ad, c, e, _, hK, hc0⟩ := Kd.C_get h z2 i h0 h1
  have hc : ∀ j u, c[j]? = some u → w.cell? (ad.add (i.toNat * 2 + j)) = some u := hc0
  obtain rfl := kd2_open hK
  exact ⟨ad, e, hc 0 _ rfl, by rw [← add_field _ _ 1 (by omega)]; exact hc 1 _ rfl⟩
theorem infoE : (Try.prog.info? 38).map (fun i => (i.zero, i.size, i.bytes)) = some (some (.agg #[.int .i64 0, .float .f64 0]), 2, 16) := by kernel_rfl
theorem set_stepS (l : List S2) {i k : Nat} (h : i + (k + 1) = l.length) : (l.take i ++ List.replicate (k + 1) z2).set i (rdS l (i : Int)) = l.take (i + 1) ++ List.replicate k z2 := by
  have := set_step l z2 z2 h
  unfold rdS
  rw [Int.toNat_natCast]
  exact this

set_option maxHeartbeats 8000000 in
set_option maxRecDepth 100000 in
theorem toS_any (A0 : Option Addr) (c0 : Nat) (l0 : List S2) (w : World) (hr0 : Kd.C kd2 w A0 l0.length l0) (hc0 : l0.length ≤ c0) (hm : l0.length ≤ 1048576) :
    Calls Try.prog 61 #[.slice A0 l0.length c0] w fun e w' => ∃ v0_ : Value, e = .returned (v0_) ∧ Kd.R kd2 38 w' w.heap.size (fun _ => True) v0_ l0 ∧ Below w.heap.size w w' := by
  have hu77 := Try.underlying36
  have hu75 := Try.underlying38
  have HR0 := Aside0.mk hr0
  have HC0 := Aside0.mk hc0
  have HM := Aside0.mk hm
  clear hr0 hc0 hm
  have HB := Aside0.mk (Below.refl w.heap.size w)
  obtain ⟨y108, hy108⟩ : ∃ y_ : List S2, y_ = (List.replicate ((l0.length : Int) : Int).toNat z2) := ⟨_, rfl⟩
  have Ny108 := Aside0.mk hy108
  clear hy108
  have c2b1 : decide (0 ≤ (l0.length : Int)) = true := decide_eq_true (by omega)
  go_enter Try.func61, Try.ntmps61
  go_wp2_with (first | ((with_reducible refine gate_dst (N := 7) rfl ?_); refine Kd.R_make kd2 _ 38 rfl (N := 7) rfl 66 _ _ rfl (l0.length : Int) rfl rfl Try.underlying66 (.agg #[.int .i64 0, .float .f64 0]) 16 infoE rfl (by decide) (by omega) z2 (ok := fun _ => True) (okp := fun _ => True) (kd2_mkM _ _ _ z2) (fun _ hk => hk) trivial (by omega) (by have := HM.out; omega) (Below.refl _ _) (Nat.le_refl _) ?_; intro v109 w4 ho5 hb hg_ hnew_; clear hg_ hnew_; (first | rw [← Ny108.out] at ho5 | (simp only [Int.reduceToNat] at ho5; rw [← Ny108.out] at ho5)); have n0_ := Aside0.mk (Kd.R_lower ho5 (below_size (by repeat (first | (with_reducible first | exact HB.out | apply below_alloc | apply pw_below_drewN | apply below_drew1) | exact HB.out)))); have n1_ := Aside0.mk (below_step (by repeat (first | (with_reducible first | exact HB.out | apply below_alloc | apply pw_below_drewN | apply below_drew1) | exact HB.out)) hb); clear HB; have HO110 := n0_; have HB := n1_; clear n0_ n1_; clear hb ho5))
  go_loopg [4] l0.length (fun kq v4 w' => ∃ (x4_1 : Int), v4 = .int .i64 x4_1 ∧ Aside0 (0 ≤ x4_1 ∧ x4_1.toNat + kq = l0.length) ∧ Aside0 (Kd.R kd2 38 w' w.heap.size (fun _ => True) v109 (l0.take x4_1.toNat ++ List.replicate kq z2)) ∧ Aside0 (Below w.heap.size w w'))
  case atStart => exact ⟨0, rfl, ⟨by omega, by simp⟩, ⟨by (with_reducible repeat (first | apply Kd.R_alloc | apply Kd.R_drewN | apply Kd.R_drew)); rw [Ny108.out] at HO110; simpa using HO110.out⟩, ⟨by repeat (first | (with_reducible first | exact HB.out | apply below_alloc | apply pw_below_drewN | apply below_drew1) | exact HB.out)⟩⟩
  case round =>
    try clear p2
    obtain ⟨x4_1, rfl, HX, HO_3, HB⟩ := hrel
    have hlen : (l0.take x4_1.toNat ++ List.replicate gk z2).length = l0.length := by have := HX.out; simp; omega
    cases gk with
    | zero =>
      have c6b0 : decide (x4_1 < (l0.length : Int)) = false := decide_eq_false (by have := HX.out; omega)
      have he : (l0.take x4_1.toNat ++ List.replicate 0 z2) = l0 := by have := HX.out; rw [List.take_of_length_le (by omega)]; simp
      rw [he] at HO_3
      clear he hlen
      go_wp2
      go_ret
      exact ⟨_, by first | rfl | (simp; done) | (simp [*]; done), by (with_reducible repeat (first | apply Kd.R_alloc | apply Kd.R_drewN | apply Kd.R_drew)); exact HO_3.out, by repeat (first | (with_reducible first | exact HB.out | apply below_alloc | apply pw_below_drewN | apply below_drew1) | exact HB.out)⟩
    | succ k1 =>
      obtain ⟨p111, hx⟩ := HX.out
      have q111 : x4_1 < (l0.length : Int) := by omega
      have c6b0 : decide (x4_1 < (l0.length : Int)) = true := decide_eq_true q111
      have c7b0 : decide (0 ≤ x4_1) = true := decide_eq_true p111
      obtain ⟨y112, hy112⟩ : ∃ y_ : List S2, y_ = ((l0.take x4_1.toNat ++ List.replicate (k1 + 1) z2).set (x4_1 : Int).toNat (rdS l0 x4_1)) := ⟨_, rfl⟩
      have Ny112 := Aside0.mk hy112
      have hz : y112 = l0.take (x4_1 + 1).toNat ++ List.replicate k1 z2 := by
        rw [hy112, show (x4_1 + 1).toNat = x4_1.toNat + 1 from by omega]
        have := set_stepS l0 (i := x4_1.toNat) (k := k1) (by omega)
        rw [show ((x4_1.toNat : Nat) : Int) = x4_1 from by omega] at this
        exact this
      have HZ := Aside0.mk hz
      clear hz hy112
      obtain ⟨ad111, e111, hx111_0, hx111_1⟩ := at_S HR0.out x4_1 p111 q111
      cases e111
      replace hx111_0 := (HB.out.cell (World.block_lt_of_cell? w _ hx111_0)).trans hx111_0
      replace hx111_1 := (HB.out.cell (World.block_lt_of_cell? w _ hx111_1)).trans hx111_1
      have hw1 : wrap64 (x4_1 + 1) = x4_1 + 1 := wrap_next p111 (by have := HM.out; omega)
      have HW1 := Aside0.mk hw1
      clear hw1
      have HXX := Aside0.mk hx
      clear hx
      obtain ⟨y3, hy3⟩ : ∃ y_ : List S2, y_ = (l0.take x4_1.toNat ++ List.replicate (k1 + 1) z2) := ⟨_, rfl⟩
      rw [← hy3] at HO_3 hlen Ny112
      have q9 : (x4_1 : Int) < ((y3.length : Int) : Int) := by omega
      have HQ9 := Aside0.mk q9
      have HP9 := Aside0.mk p111
      have HY3 := Aside0.mk (show 0 < y3.length by omega)
      have c9b0 : decide ((x4_1 : Int) < ((y3.length : Int) : Int)) = true := decide_eq_true q9
      clear hy3
      replace p111 := eq_true p111
      replace q111 := eq_true q111
      replace q9 := eq_true q9
      clear hlen
      go_wp2_with (first | (go_at_call 34; refine (Fe.toLevel_any _ _ _).mono ?_; rintro e w11 ⟨rfl, hb⟩; have n0_ := Aside0.mk (Kd.R_below (by (with_reducible repeat (first | apply Kd.R_alloc | apply Kd.R_drewN | apply Kd.R_drew)); exact HO_3.out) hb); have n1_ := Aside0.mk (below_step (by repeat (first | (with_reducible first | exact HB.out | apply below_alloc | apply pw_below_drewN | apply below_drew1) | exact HB.out)) hb); clear HO_3; clear HB; have HO_3 := n0_; have HB := n1_; clear n0_ n1_; (try clear hb); obtain ⟨go10, co10, eo10, gb10, gl10, cl10, HG10⟩ := Kd.R_form HO_3.out HY3.out; (first | cases eo10 | (injection eo10 with ea_ en_ ec_; (first | subst ea_ | (injection ea_ with ea_; subst ea_)); subst ec_; clear en_)); have GB10 := Aside0.mk gb10; clear gb10 gl10 HG10; obtain ⟨ce12, hcl12, hM12, hcc12, hfr12⟩ := Kd.R_elem HO_3.out z2 (x4_1 : Int) HP9.out HQ9.out; obtain rfl := kd2_openM hM12; have HP12 := Kd.R_seg HO_3.out (x4_1 : Int) HP9.out HQ9.out (seg := [.int .i64 (rdS l0 x4_1).f0, .float .f64 (rdS l0 x4_1).f1]) (j := 0) hcl12 hcc12 (show 2 ≤ 2 from by decide) (x' := rdS l0 x4_1) (kd2_mkM _ _ _ (rdS l0 x4_1)) (fun _ hk => hk); have hx12_0 : w11.cell? ⟨go10, (x4_1 : Int).toNat * 2, none⟩ = some (.int .i64 (rdS y3 x4_1).f0) := hcc12 0 _ rfl; have hx12_1 : w11.cell? ⟨go10, (x4_1 : Int).toNat * 2 + 1, none⟩ = some (.float .f64 (rdS y3 x4_1).f1) := hcc12 1 _ rfl; have hf12_0 : w11.frozen? ⟨go10, (x4_1 : Int).toNat * 2, none⟩ = false := hfr12 0; have hf12_1 : w11.frozen? ⟨go10, (x4_1 : Int).toNat * 2 + 1, none⟩ = false := hfr12 1; clear hcl12 hcc12 hfr12 hM12) | ((with_reducible refine gate_store (t := 38) (p := 21) rfl ?_); refine store_event (t := 38) (p := 21) (v := ?vo_w13) (w1 := ((w11.setCell ⟨go10, (x4_1 : Int).toNat * 2, none⟩ (.int .i64 (rdS l0 x4_1).f0)).setCell ⟨go10, (x4_1 : Int).toNat * 2 + 1, none⟩ (.float .f64 (rdS l0 x4_1).f1))) ?hg ?ho ?hn ?hr ?_; (case ho => rfl); (case hg => rfl); (case hn => rfl); (case hr => first | (go_simp; done) | (go_simp; rfl)); intro w13 hw; have hg : w11.grownBy w13 (some go10) := (by rw [hw]; exact HP12.2); have hp_ : Kd.R kd2 38 w13 w.heap.size (fun _ => True) (.slice (some ⟨go10, 0, none⟩) y3.length co10) y112 := (by rw [hw, Ny112.out]; exact HP12.1); clear HP12; have n0_ := Aside0.mk (hp_); have n1_ := Aside0.mk ((by rw [hw]; exact below_set (below_set (HB.out) GB10.out) GB10.out : Below w.heap.size w w13)); clear HO_3; clear HB; have HO_3 := n0_; have HB := n1_; clear n0_ n1_; clear hg hw hp_))
      go_roundg k1
      case measure => omega
      case rel => exact ⟨x4_1 + 1, by rw [HW1.out], ⟨by have := HX.out; omega, by have := HX.out; omega⟩, ⟨by rw [← HZ.out]; (with_reducible repeat (first | apply Kd.R_alloc | apply Kd.R_drewN | apply Kd.R_drew)); exact HO_3.out⟩, ⟨by repeat (first | (with_reducible first | exact HB.out | apply below_alloc | apply pw_below_drewN | apply below_drew1) | exact HB.out)⟩⟩
theorem toS_reads (A0 : Option Addr) (c0 : Nat) (l0 : List S2) (w : World) (hr0 : Kd.C kd2 w A0 l0.length l0) (hc0 : l0.length ≤ c0) (hm : l0.length ≤ 1048576) :
    Calls Try.prog 61 #[.slice A0 l0.length c0] w fun e w' => ∃ A c, e = .returned (.slice A l0.length c) ∧ l0.length ≤ c ∧ Kd.C kd2 w' A l0.length l0 ∧ Below w.heap.size w w' := by
  refine (toS_any A0 c0 l0 w hr0 hc0 hm).mono ?_
  rintro e w' ⟨v, rfl, ho, hb⟩
  obtain ⟨A, c, rfl, hl, hC⟩ := Kd.R_reads ho
  exact ⟨A, c, rfl, hl, hC, hb⟩

theorem keepS {w0 w : World} {p0 p1 q0 q1 : Addr} {a b c d : Value} (hb : Below w0.heap.size w0 w) (h0 : w0.cell? p0 = some a) (h1 : w0.cell? p1 = some b) (h2 : w0.cell? q0 = some c) (h3 : w0.cell? q1 = some d) : Below w0.heap.size w0 w ∧ w.cell? p0 = some a ∧ w.cell? p1 = some b ∧ w.cell? q0 = some c ∧ w.cell? q1 = some d :=
  ⟨hb, (hb.cell (World.block_lt_of_cell? w0 _ h0)).trans h0, (hb.cell (World.block_lt_of_cell? w0 _ h1)).trans h1, (hb.cell (World.block_lt_of_cell? w0 _ h2)).trans h2, (hb.cell (World.block_lt_of_cell? w0 _ h3)).trans h3⟩

set_option maxHeartbeats 8000000 in
set_option maxRecDepth 100000 in
theorem eqS_any (A0 : Option Addr) (c0 : Nat) (A1 : Option Addr) (c1 : Nat) (l0 : List S2) (w : World) (hr0 : Kd.C kd2 w A0 l0.length l0) (hr1 : Kd.C kd2 w A1 l0.length l0) (hm : l0.length ≤ 1048576) :
    Calls Try.prog 63 #[.slice A0 l0.length c0, .slice A1 l0.length c1] w fun e w' => e = .returned (.bool true) ∧ Below w.heap.size w w' := by
  have hu75 := Try.underlying38
  have HR0 := Aside0.mk hr0
  have HR1 := Aside0.mk hr1
  have HM := Aside0.mk hm
  clear hr0 hr1 hm
  go_enter Try.func63, Try.ntmps63
  go_wp2
  go_loopg [5] l0.length (fun kq v5 w' => ∃ (x : Int), v5 = .int .i64 x ∧ Aside0 (0 ≤ x ∧ x.toNat + kq = l0.length) ∧ Aside0 (Below w.heap.size w w'))
  case atStart => exact ⟨0, rfl, ⟨by omega, by simp⟩, ⟨Below.refl _ _⟩⟩
  case round =>
    try clear p2
    obtain ⟨x, rfl, HX, HB⟩ := hrel
    cases gk with
    | zero =>
      have c6b0 : decide (x < (l0.length : Int)) = false := decide_eq_false (by have := HX.out; omega)
      go_wp2
      go_ret
      exact ⟨rfl, by repeat (first | (with_reducible first | exact HB.out | apply below_alloc | apply pw_below_drewN | apply below_drew1) | exact HB.out)⟩
    | succ k1 =>
      obtain ⟨p111, hx⟩ := HX.out
      have q111 : x < (l0.length : Int) := by omega
      have c6b0 : decide (x < (l0.length : Int)) = true := decide_eq_true q111
      obtain ⟨ad111, e111, g0, g1⟩ := at_S HR0.out x p111 q111
      cases e111
      obtain ⟨ad112, e112, g2, g3⟩ := at_S HR1.out x p111 q111
      cases e112
      have HW1 := Aside0.mk (wrap_next p111 (by have := HM.out; omega) : wrap64 (x + 1) = x + 1)
      clear hx
      replace p111 := eq_true p111
      replace q111 := eq_true q111
      go_wp2
      obtain ⟨o1, o2, o3, o4, o5⟩ := keepS HB.out g0 g1 g2 g3
      replace g0 := Aside0.mk g0
      replace g1 := Aside0.mk g1
      replace g2 := Aside0.mk g2
      replace g3 := Aside0.mk g3
      clear HB HR0 HR1
      go_region_held3 (fun v => Below w.heap.size w v ∧ v.cell? (ad111.add (x.toNat * 2)) = some (.int .i64 (rdS l0 x).f0) ∧ v.cell? ⟨(ad111.add (x.toNat * 2)).block, (ad111.add (x.toNat * 2)).off + 1, none⟩ = some (.float .f64 (rdS l0 x).f1) ∧ v.cell? (ad112.add (x.toNat * 2)) = some (.int .i64 (rdS l0 x).f0) ∧ v.cell? ⟨(ad112.add (x.toNat * 2)).block, (ad112.add (x.toNat * 2)).off + 1, none⟩ = some (.float .f64 (rdS l0 x).f1)) (first | exact keepS (by assumption) g0.out g1.out g2.out g3.out | exact keepS (Below.drew (by assumption)) g0.out g1.out g2.out g3.out | go_keep) (first | (go_at_call 75; refine (eqLevel_of _ _ _).mono ?_; rintro e w' ⟨rfl, hb⟩; have kb : Below w.heap.size w w' := Fp.step (by first | assumption | exact Below.drew (by assumption)) hb; clear hb))
      all_goals
        have HB := Aside0.mk kb
        clear kb o1 o2 o3 o4 o5
        go_wp2
        go_roundg k1
        case measure => omega
        case rel => exact ⟨x + 1, by rw [HW1.out], ⟨by have := HX.out; omega, by have := HX.out; omega⟩, ⟨by repeat (first | (with_reducible first | exact HB.out | apply below_alloc | apply pw_below_drewN | apply below_drew1) | exact HB.out)⟩⟩
end Go.Proofs.Ytbgacfjocjcffaa.Fx
