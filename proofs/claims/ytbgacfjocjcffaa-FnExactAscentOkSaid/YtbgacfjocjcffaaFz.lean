/-
  Contracts of AscentOk (both sides); the law of AscentOk.
  Conditions: the row's length is at most 2^20.
-/
import Derived.Test.YtbgacfjocjcffaaFl
import Derived.Test.YtbgacfjocjcffaaFx
namespace Go.Proofs.Ytbgacfjocjcffaa.Fz
open Go Go.RowKit Go.Proofs.Ytbgacfjocjcffaa.Fk Go.Proofs.Ytbgacfjocjcffaa.Qs Go.Proofs.Ytbgacfjocjcffaa.Fw Go.Proofs.Ytbgacfjocjcffaa.Fc Go.Proofs.Ytbgacfjocjcffaa.Fe Go.Proofs.Ytbgacfjocjcffaa.Fx Go.Proofs.Ytbgacfjocjcffaa.Fl
open Go.Proofs.YtbgacfjocjcffaaW.PrintWords Go.Proofs.YtbgacfjocjcffaaW.PrintLast Go.Proofs.YtbgacfjocjcffaaW.PrintMore
set_option linter.unusedVariables false
set_option linter.unusedSimpArgs false
attribute [local go_sem] Fp.run_store_float Fp.drewN_setCell Fp.drewN_alloc


def lo : Nat := 13864612927836782592
def hi : Nat := 4641240890982006784
def inB (p : Int) : Bool := decide (1 ≤ p) && decide (p ≤ 12000)
def prevB (l : List S2) (x : Int) : Bool := decide (0 < x) && decide ((rdS l (x - 1)).f0 ≤ (rdS l x).f0)
def badB (l : List S2) (x : Int) : Bool := !inB (rdS l x).f0 || prevB l x || !kn (rdS l x).f1 || (FloatKind.f64.format.order (rdS l x).f1 13864612927836782592 == some .lt) || (FloatKind.f64.format.order (rdS l x).f1 4641240890982006784 == some .gt)
/-- The levels of the places 0 .. j - 1 are well. -/
def wel (l : List S2) : Nat → Bool
  | 0 => true
  | j + 1 => wel l j && !badB l (j : Int)
theorem wel_next {l : List S2} {x : Int} (h0 : 0 ≤ x) (hw : wel l x.toNat = true) (hb : badB l x = false) : wel l (x + 1).toNat = true := by
  rw [show (x + 1).toNat = x.toNat + 1 from by omega, wel, show ((x.toNat : Nat) : Int) = x from by omega, hw, hb]; rfl
theorem wel_not {l : List S2} : ∀ {n j : Nat}, j < n → badB l (j : Int) = true → wel l n = false
  | 0, j, h, _ => by omega
  | n + 1, j, h, hb => by
    unfold wel
    by_cases hj : j = n
    · subst hj; rw [hb]; simp
    · rw [wel_not (by omega) hb]; rfl
def AO (l : List S2) : Bool := if 2 ≤ l.length ∧ l.length ≤ 400 then wel l l.length else false
theorem AO_not {l : List S2} {x : Int} (h : 2 ≤ l.length ∧ l.length ≤ 400) (h0 : 0 ≤ x) (h1 : x < (l.length : Int)) (hb : badB l x = true) : AO l = false := by
  unfold AO
  rw [if_pos h]
  exact wel_not (j := x.toNat) (by omega) (by rw [show ((x.toNat : Nat) : Int) = x from by omega]; exact hb)
theorem AO_yes {l : List S2} (h : 2 ≤ l.length ∧ l.length ≤ 400) {x : Int} (hx : x.toNat = l.length) (hw : wel l x.toNat = true) : AO l = true := by
  unfold AO
  rw [if_pos h, ← hx]
  exact hw
theorem badA {l : List S2} {x : Int} (h : inB (rdS l x).f0 = false) : badB l x = true := by unfold badB; rw [h]; rfl
theorem badC {l : List S2} {x : Int} (h : prevB l x = true) : badB l x = true := by unfold badB; rw [h]; simp
theorem badD {l : List S2} {x : Int} (h : kn (rdS l x).f1 = false) : badB l x = true := by unfold badB; rw [h]; simp
theorem badE {l : List S2} {x : Int} (h : (FloatKind.f64.format.order (rdS l x).f1 13864612927836782592 == some .lt) = true) : badB l x = true := by unfold badB; rw [h]; simp
theorem badF {l : List S2} {x : Int} (h : (FloatKind.f64.format.order (rdS l x).f1 4641240890982006784 == some .gt) = true) : badB l x = true := by unfold badB; rw [h]; simp
theorem badNo {l : List S2} {x : Int} (h1 : inB (rdS l x).f0 = true) (h2 : prevB l x = false) (h3 : kn (rdS l x).f1 = true) (h4 : (FloatKind.f64.format.order (rdS l x).f1 13864612927836782592 == some .lt) = false) (h5 : (FloatKind.f64.format.order (rdS l x).f1 4641240890982006784 == some .gt) = false) : badB l x = false := by unfold badB; rw [h1, h2, h3, h4, h5]; rfl
theorem prev0 {l : List S2} {x : Int} (h : decide (0 < x) = false) : prevB l x = false := by unfold prevB; rw [h]; rfl
theorem prev1 {l : List S2} {x xm : Int} {b : Bool} (h : decide (0 < x) = true) (hm : xm = x - 1) (hb : decide ((rdS l xm).f0 ≤ (rdS l x).f0) = b) : prevB l x = b := by subst hm; unfold prevB; rw [h, hb]; rfl
theorem wrap_small {x : Int} (h0 : -4611686018427387904 ≤ x) (h : x < 4611686018427387904) : wrap64 x = x := by
  unfold wrap64
  omega
theorem rdS_lt {l : List S2} (h : ∀ p ∈ l, p.f1 < 18446744073709551616) (i : Int) : (rdS l i).f1 < 18446744073709551616 := by
  unfold rdS
  rw [List.getD_eq_getElem?_getD]
  cases hg : l[i.toNat]? with
  | none => exact (by decide : (0 : Nat) < 18446744073709551616)
  | some y => exact h y (List.mem_of_getElem? hg)

set_option maxHeartbeats 16000000 in
set_option maxRecDepth 100000 in
theorem specAO_any (A0 : Option Addr) (c0 : Nat) (l0 : List S2) (w : World) (hr0 : Kd.C kd2 w A0 l0.length l0) (hlt : ∀ p ∈ l0, p.f1 < 18446744073709551616) :
    Calls Try.prog 60 #[.slice A0 l0.length c0] w fun e w' => e = .returned (.bool (AO l0)) ∧ Below w.heap.size w w' := by
  have HR0 := Aside0.mk hr0
  have HLT := Aside0.mk hlt
  have hu38 := Try.underlying38
  clear hr0 hlt
  by_cases hm : 2 ≤ l0.length ∧ l0.length ≤ 400
  case neg =>
    have HA := Aside0.mk (show AO l0 = false by unfold AO; rw [if_neg hm])
    by_cases h2 : l0.length < 2
    · have e0 : decide ((l0.length : Int) < 2) = true := decide_eq_true (by omega)
      have e1 : decide (l0.length < 2) = true := decide_eq_true h2
      clear hm h2
      go_enter Try.func60, Try.ntmps60
      go_wp2
      go_ret
      exact ⟨by rw [HA.out]; rfl, Below.refl _ _⟩
    · have e0 : decide ((l0.length : Int) < 2) = false := decide_eq_false (by omega)
      have e1 : decide (l0.length < 2) = false := decide_eq_false h2
      have e2 : decide (400 < (l0.length : Int)) = true := decide_eq_true (by omega)
      have e3 : decide (400 < l0.length) = true := decide_eq_true (by omega)
      clear hm h2
      go_enter Try.func60, Try.ntmps60
      go_wp2
      go_ret
      exact ⟨by rw [HA.out]; rfl, Below.refl _ _⟩
  case pos =>
    have e0 : decide ((l0.length : Int) < 2) = false := decide_eq_false (by omega)
    have e1 : decide (l0.length < 2) = false := decide_eq_false (by omega)
    have e2 : decide (400 < (l0.length : Int)) = false := decide_eq_false (by omega)
    have e3 : decide (400 < l0.length) = false := decide_eq_false (by omega)
    have HLn := Aside0.mk hm
    clear hm
    go_enter Try.func60, Try.ntmps60
    go_wp2
    go_loopg [3] l0.length (fun kq v3 w' => ∃ (x : Int), v3 = .int .i64 x ∧ Aside0 (0 ≤ x ∧ x.toNat + kq = l0.length ∧ wel l0 x.toNat = true) ∧ Aside0 (Below w.heap.size w w'))
    case atStart => exact ⟨0, rfl, ⟨by omega, by simp, rfl⟩, ⟨Below.refl _ _⟩⟩
    case round =>
      try clear p2
      obtain ⟨x, rfl, HX, HB⟩ := hrel
      cases gk with
      | zero =>
        have c6b0 : decide (x < (l0.length : Int)) = false := decide_eq_false (by have := HX.out; omega)
        go_wp2
        go_ret
        obtain ⟨x0, x1, x2⟩ := HX.out
        exact ⟨by rw [AO_yes HLn.out x1 x2]; rfl, by repeat (first | (with_reducible first | exact HB.out | apply below_alloc | apply pw_below_drewN | apply below_drew1) | exact HB.out)⟩
      | succ k1 =>
        obtain ⟨p111, hx, h2⟩ := HX.out
        have q111 : x < (l0.length : Int) := by omega
        have HP9 := Aside0.mk p111
        have HQ9 := Aside0.mk q111
        have c6b0 : decide (x < (l0.length : Int)) = true := decide_eq_true q111
        have HLt := Aside0.mk (rdS_lt HLT.out x)
        have HW1 := Aside0.mk (wrap_next p111 (by have := HLn.out; omega) : wrap64 (x + 1) = x + 1)
        obtain ⟨ad111, e111, g0, g1⟩ := at_S HR0.out x p111 q111
        cases e111
        replace g0 := (HB.out.cell (World.block_lt_of_cell? w _ g0)).trans g0
        replace g1 := (HB.out.cell (World.block_lt_of_cell? w _ g1)).trans g1
        clear hx h2
        replace p111 := eq_true p111
        replace q111 := eq_true q111
        cases d1 : (decide (1 ≤ (rdS l0 x).f0) && decide ((rdS l0 x).f0 ≤ 12000))
        · have d1' := Aside0.mk d1
          go_wp2
          go_quiet (first | (go_at_call 70; refine Calls.quiet_of_same ((specIn_any _ _ _ _).mono (fun _ _ h => ⟨h.1, h.2.symm⟩))) | (go_at_call 20; refine Calls.quiet_of (specKnown_any _ _)))
          go_wp2
          go_ret
          exact ⟨by rw [AO_not HLn.out HP9.out HQ9.out (badA d1'.out)]; rfl, by repeat (first | (with_reducible first | exact HB.out | apply below_alloc | apply pw_below_drewN | apply below_drew1) | exact HB.out)⟩
        · have inb : inB (rdS l0 x).f0 = true := d1
          replace inb := inb
          cases d0 : decide (0 < x)
          · have hd0 := Aside0.mk d0
            cases d3 : kn (rdS l0 x).f1
            · have d3' := Aside0.mk d3
              go_wp2
              go_quiet (first | (go_at_call 70; refine Calls.quiet_of_same ((specIn_any _ _ _ _).mono (fun _ _ h => ⟨h.1, h.2.symm⟩))) | (go_at_call 20; refine Calls.quiet_of (specKnown_any _ _)))
              go_wp2
              go_ret
              exact ⟨by rw [AO_not HLn.out HP9.out HQ9.out (badD d3'.out)]; rfl, by repeat (first | (with_reducible first | exact HB.out | apply below_alloc | apply pw_below_drewN | apply below_drew1) | exact HB.out)⟩
            · cases d4 : (FloatKind.f64.format.order (rdS l0 x).f1 13864612927836782592 == some .lt)
              · cases d5 : (FloatKind.f64.format.order (rdS l0 x).f1 4641240890982006784 == some .gt)
                · have inb := Aside0.mk inb
                  go_wp2
                  go_quiet (first | (go_at_call 70; refine Calls.quiet_of_same ((specIn_any _ _ _ _).mono (fun _ _ h => ⟨h.1, h.2.symm⟩))) | (go_at_call 20; refine Calls.quiet_of (specKnown_any _ _)))
                  go_wp2
                  go_roundg k1
                  case measure => omega
                  case rel => exact ⟨x + 1, by rw [HW1.out], ⟨by have := HX.out; omega, by have := HX.out; omega, wel_next HP9.out HX.out.2.2 (badNo (inb.out) (prev0 hd0.out) d3 d4 d5)⟩, ⟨by repeat (first | (with_reducible first | exact HB.out | apply below_alloc | apply pw_below_drewN | apply below_drew1) | exact HB.out)⟩⟩
                · have d5' := Aside0.mk d5
                  go_wp2
                  go_quiet (first | (go_at_call 70; refine Calls.quiet_of_same ((specIn_any _ _ _ _).mono (fun _ _ h => ⟨h.1, h.2.symm⟩))) | (go_at_call 20; refine Calls.quiet_of (specKnown_any _ _)))
                  go_wp2
                  go_ret
                  exact ⟨by rw [AO_not HLn.out HP9.out HQ9.out (badF d5'.out)]; rfl, by repeat (first | (with_reducible first | exact HB.out | apply below_alloc | apply pw_below_drewN | apply below_drew1) | exact HB.out)⟩
              · have d4' := Aside0.mk d4
                go_wp2
                go_quiet (first | (go_at_call 70; refine Calls.quiet_of_same ((specIn_any _ _ _ _).mono (fun _ _ h => ⟨h.1, h.2.symm⟩))) | (go_at_call 20; refine Calls.quiet_of (specKnown_any _ _)))
                go_wp2
                go_ret
                exact ⟨by rw [AO_not HLn.out HP9.out HQ9.out (badE d4'.out)]; rfl, by repeat (first | (with_reducible first | exact HB.out | apply below_alloc | apply pw_below_drewN | apply below_drew1) | exact HB.out)⟩
          · have hd0 := Aside0.mk d0
            obtain ⟨xm, hxm⟩ : ∃ y, wrap64 (x - 1) = y := ⟨_, rfl⟩
            have hxn : IntKind.i64.wrap (x - 1) = xm := by rw [← hxm, IntKind.wrap_i64, wrap64]
            have hxm' := Aside0.mk (show xm = x - 1 by rw [← hxm]; have := HP9.out; have := HQ9.out; have := HLn.out; exact wrap_small (by omega) (by omega))
            have p1 : 0 ≤ xm := by have := of_decide_eq_true d0; have := hxm'.out; omega
            have q1 : xm < (l0.length : Int) := by have := hxm'.out; have := HQ9.out; omega
            obtain ⟨ad', ea, g2, g3⟩ := at_S HR0.out xm p1 q1
            cases ea
            replace g2 := (HB.out.cell (World.block_lt_of_cell? w _ g2)).trans g2
            clear g3
            have g4 : (wr.alloc (.cells #[.int .i64 (rdS l0 x).f0, .float .f64 (rdS l0 x).f1] 38 (0, 0))).cell? (ad111.add (xm.toNat * 2)) = some (.int .i64 (rdS l0 xm).f0) := (((Below.refl wr.heap.size wr).alloc (Nat.le_refl _) _).cell (World.block_lt_of_cell? wr _ g2)).trans g2
            replace p1 := eq_true p1
            replace q1 := eq_true q1
            cases d2 : decide ((rdS l0 xm).f0 ≤ (rdS l0 x).f0)
            · have hd2 := Aside0.mk d2
              cases d3 : kn (rdS l0 x).f1
              · have d3' := Aside0.mk d3
                go_wp2
                go_quiet (first | (go_at_call 70; refine Calls.quiet_of_same ((specIn_any _ _ _ _).mono (fun _ _ h => ⟨h.1, h.2.symm⟩))) | (go_at_call 20; refine Calls.quiet_of (specKnown_any _ _)))
                go_wp2
                go_ret
                exact ⟨by rw [AO_not HLn.out HP9.out HQ9.out (badD d3'.out)]; rfl, by repeat (first | (with_reducible first | exact HB.out | apply below_alloc | apply pw_below_drewN | apply below_drew1) | exact HB.out)⟩
              · cases d4 : (FloatKind.f64.format.order (rdS l0 x).f1 13864612927836782592 == some .lt)
                · cases d5 : (FloatKind.f64.format.order (rdS l0 x).f1 4641240890982006784 == some .gt)
                  · have inb := Aside0.mk inb
                    go_wp2
                    go_quiet (first | (go_at_call 70; refine Calls.quiet_of_same ((specIn_any _ _ _ _).mono (fun _ _ h => ⟨h.1, h.2.symm⟩))) | (go_at_call 20; refine Calls.quiet_of (specKnown_any _ _)))
                    go_wp2
                    go_roundg k1
                    case measure => omega
                    case rel => exact ⟨x + 1, by rw [HW1.out], ⟨by have := HX.out; omega, by have := HX.out; omega, wel_next HP9.out HX.out.2.2 (badNo (inb.out) (prev1 hd0.out hxm'.out hd2.out) d3 d4 d5)⟩, ⟨by repeat (first | (with_reducible first | exact HB.out | apply below_alloc | apply pw_below_drewN | apply below_drew1) | exact HB.out)⟩⟩
                  · have d5' := Aside0.mk d5
                    go_wp2
                    go_quiet (first | (go_at_call 70; refine Calls.quiet_of_same ((specIn_any _ _ _ _).mono (fun _ _ h => ⟨h.1, h.2.symm⟩))) | (go_at_call 20; refine Calls.quiet_of (specKnown_any _ _)))
                    go_wp2
                    go_ret
                    exact ⟨by rw [AO_not HLn.out HP9.out HQ9.out (badF d5'.out)]; rfl, by repeat (first | (with_reducible first | exact HB.out | apply below_alloc | apply pw_below_drewN | apply below_drew1) | exact HB.out)⟩
                · have d4' := Aside0.mk d4
                  go_wp2
                  go_quiet (first | (go_at_call 70; refine Calls.quiet_of_same ((specIn_any _ _ _ _).mono (fun _ _ h => ⟨h.1, h.2.symm⟩))) | (go_at_call 20; refine Calls.quiet_of (specKnown_any _ _)))
                  go_wp2
                  go_ret
                  exact ⟨by rw [AO_not HLn.out HP9.out HQ9.out (badE d4'.out)]; rfl, by repeat (first | (with_reducible first | exact HB.out | apply below_alloc | apply pw_below_drewN | apply below_drew1) | exact HB.out)⟩
            · have hd2 := Aside0.mk d2
              go_wp2
              go_quiet (first | (go_at_call 70; refine Calls.quiet_of_same ((specIn_any _ _ _ _).mono (fun _ _ h => ⟨h.1, h.2.symm⟩))) | (go_at_call 20; refine Calls.quiet_of (specKnown_any _ _)))
              go_wp2
              go_ret
              exact ⟨by rw [AO_not HLn.out HP9.out HQ9.out (badC (prev1 hd0.out hxm'.out hd2.out))]; rfl, by repeat (first | (with_reducible first | exact HB.out | apply below_alloc | apply pw_below_drewN | apply below_drew1) | exact HB.out)⟩

theorem implIn_of (n lo hi : Int) (b : Bool) (w : World) (h : (decide (lo ≤ n) && decide (n ≤ hi)) = b) : Calls Try.prog 72 #[.int .i64 n, .int .i64 lo, .int .i64 hi] w fun e w' => e = .returned (.bool b) ∧ w = w' := by subst h; exact implIn_any n lo hi w

set_option maxHeartbeats 16000000 in
set_option maxRecDepth 100000 in
theorem implAO_any (A0 : Option Addr) (c0 : Nat) (l0 : List S2) (w : World) (hr0 : Kd.C kd2 w A0 l0.length l0) (hlt : ∀ p ∈ l0, p.f1 < 18446744073709551616) :
    Calls Try.prog 62 #[.slice A0 l0.length c0] w fun e w' => e = .returned (.bool (AO l0)) ∧ Below w.heap.size w w' := by
  have HR0 := Aside0.mk hr0
  have HLT := Aside0.mk hlt
  have hu38 := Try.underlying38
  clear hr0 hlt
  by_cases hm : 2 ≤ l0.length ∧ l0.length ≤ 400
  case neg =>
    have HA := Aside0.mk (show AO l0 = false by unfold AO; rw [if_neg hm])
    have e0 : (decide ((2 : Int) ≤ (l0.length : Int)) && decide ((l0.length : Int) ≤ 400)) = false := by
      by_cases h2 : 2 ≤ l0.length
      · rw [decide_eq_false (p := (l0.length : Int) ≤ 400) (by omega), Bool.and_false]
      · rw [decide_eq_false (p := (2 : Int) ≤ (l0.length : Int)) (by omega), Bool.false_and]
    have hi := Aside0.mk e0
    clear hm e0
    go_enter Try.func62, Try.ntmps62
    go_wp2_with (first | (go_at_call 72; refine (implIn_of _ _ _ _ _ hi.out).mono ?_; rintro e w' ⟨rfl, rfl⟩))
    go_ret
    exact ⟨by rw [HA.out]; rfl, Below.refl _ _⟩
  case pos =>
    have e0 : (decide ((2 : Int) ≤ (l0.length : Int)) && decide ((l0.length : Int) ≤ 400)) = true := by
      rw [decide_eq_true (p := (l0.length : Int) ≤ 400) (by omega), decide_eq_true (p := (2 : Int) ≤ (l0.length : Int)) (by omega)]; rfl
    have hi := Aside0.mk e0
    have HLn := Aside0.mk hm
    clear hm e0
    go_enter Try.func62, Try.ntmps62
    go_wp2_with (first | (go_at_call 72; refine (implIn_of _ _ _ _ _ hi.out).mono ?_; rintro e w' ⟨rfl, rfl⟩))
    go_loopg [11] l0.length (fun kq v11 w' => ∃ (x : Int), v11 = .int .i64 x ∧ Aside0 (0 ≤ x ∧ x.toNat + kq = l0.length ∧ wel l0 x.toNat = true) ∧ Aside0 (Below w.heap.size w w'))
    case atStart => exact ⟨0, rfl, ⟨by omega, by simp, rfl⟩, ⟨Below.refl _ _⟩⟩
    case round =>
      try clear p2
      obtain ⟨x, rfl, HX, HB⟩ := hrel
      cases gk with
      | zero =>
        have c6b0 : decide (x < (l0.length : Int)) = false := decide_eq_false (by have := HX.out; omega)
        go_wp2
        go_ret
        obtain ⟨x0, x1, x2⟩ := HX.out
        exact ⟨by rw [AO_yes HLn.out x1 x2]; rfl, by repeat (first | (with_reducible first | exact HB.out | apply below_alloc | apply pw_below_drewN | apply below_drew1) | exact HB.out)⟩
      | succ k1 =>
        obtain ⟨p111, hx, h2⟩ := HX.out
        have q111 : x < (l0.length : Int) := by omega
        have HP9 := Aside0.mk p111
        have HQ9 := Aside0.mk q111
        have c6b0 : decide (x < (l0.length : Int)) = true := decide_eq_true q111
        have HLt := Aside0.mk (rdS_lt HLT.out x)
        have HW1 := Aside0.mk (wrap_next p111 (by have := HLn.out; omega) : wrap64 (x + 1) = x + 1)
        obtain ⟨ad111, e111, g0, g1⟩ := at_S HR0.out x p111 q111
        cases e111
        replace g0 := (HB.out.cell (World.block_lt_of_cell? w _ g0)).trans g0
        replace g1 := (HB.out.cell (World.block_lt_of_cell? w _ g1)).trans g1
        clear hx h2
        replace p111 := eq_true p111
        replace q111 := eq_true q111
        cases d1 : (decide (1 ≤ (rdS l0 x).f0) && decide ((rdS l0 x).f0 ≤ 12000))
        · have d1' := Aside0.mk d1
          go_wp2
          go_quiet (first | (go_at_call 72; refine Calls.quiet_of_same ((implIn_any _ _ _ _).mono (fun _ _ h => ⟨h.1, h.2.symm⟩))) | (go_at_call 21; refine Calls.quiet_of_same ((implKnown_any _ HLt.out _).mono (fun _ _ h => ⟨h.1, h.2.symm⟩))))
          go_wp2
          go_ret
          exact ⟨by rw [AO_not HLn.out HP9.out HQ9.out (badA d1'.out)]; rfl, by repeat (first | (with_reducible first | exact HB.out | apply below_alloc | apply pw_below_drewN | apply below_drew1) | exact HB.out)⟩
        · have inb : inB (rdS l0 x).f0 = true := d1
          replace inb := inb
          cases d0 : decide (0 < x)
          · have hd0 := Aside0.mk d0
            cases d3 : kn (rdS l0 x).f1
            · have d3' := Aside0.mk d3
              go_wp2
              go_quiet (first | (go_at_call 72; refine Calls.quiet_of_same ((implIn_any _ _ _ _).mono (fun _ _ h => ⟨h.1, h.2.symm⟩))) | (go_at_call 21; refine Calls.quiet_of_same ((implKnown_any _ HLt.out _).mono (fun _ _ h => ⟨h.1, h.2.symm⟩))))
              go_wp2
              go_ret
              exact ⟨by rw [AO_not HLn.out HP9.out HQ9.out (badD d3'.out)]; rfl, by repeat (first | (with_reducible first | exact HB.out | apply below_alloc | apply pw_below_drewN | apply below_drew1) | exact HB.out)⟩
            · cases d4 : (FloatKind.f64.format.order (rdS l0 x).f1 13864612927836782592 == some .lt)
              · cases d5 : (FloatKind.f64.format.order (rdS l0 x).f1 4641240890982006784 == some .gt)
                · have inb := Aside0.mk inb
                  go_wp2
                  go_quiet (first | (go_at_call 72; refine Calls.quiet_of_same ((implIn_any _ _ _ _).mono (fun _ _ h => ⟨h.1, h.2.symm⟩))) | (go_at_call 21; refine Calls.quiet_of_same ((implKnown_any _ HLt.out _).mono (fun _ _ h => ⟨h.1, h.2.symm⟩))))
                  go_wp2
                  go_roundg k1
                  case measure => omega
                  case rel => exact ⟨x + 1, by rw [HW1.out], ⟨by have := HX.out; omega, by have := HX.out; omega, wel_next HP9.out HX.out.2.2 (badNo (inb.out) (prev0 hd0.out) d3 d4 d5)⟩, ⟨by repeat (first | (with_reducible first | exact HB.out | apply below_alloc | apply pw_below_drewN | apply below_drew1) | exact HB.out)⟩⟩
                · have d5' := Aside0.mk d5
                  go_wp2
                  go_quiet (first | (go_at_call 72; refine Calls.quiet_of_same ((implIn_any _ _ _ _).mono (fun _ _ h => ⟨h.1, h.2.symm⟩))) | (go_at_call 21; refine Calls.quiet_of_same ((implKnown_any _ HLt.out _).mono (fun _ _ h => ⟨h.1, h.2.symm⟩))))
                  go_wp2
                  go_ret
                  exact ⟨by rw [AO_not HLn.out HP9.out HQ9.out (badF d5'.out)]; rfl, by repeat (first | (with_reducible first | exact HB.out | apply below_alloc | apply pw_below_drewN | apply below_drew1) | exact HB.out)⟩
              · have d4' := Aside0.mk d4
                go_wp2
                go_quiet (first | (go_at_call 72; refine Calls.quiet_of_same ((implIn_any _ _ _ _).mono (fun _ _ h => ⟨h.1, h.2.symm⟩))) | (go_at_call 21; refine Calls.quiet_of_same ((implKnown_any _ HLt.out _).mono (fun _ _ h => ⟨h.1, h.2.symm⟩))))
                go_wp2
                go_ret
                exact ⟨by rw [AO_not HLn.out HP9.out HQ9.out (badE d4'.out)]; rfl, by repeat (first | (with_reducible first | exact HB.out | apply below_alloc | apply pw_below_drewN | apply below_drew1) | exact HB.out)⟩
          · have hd0 := Aside0.mk d0
            obtain ⟨xm, hxm⟩ : ∃ y, wrap64 (x - 1) = y := ⟨_, rfl⟩
            have hxn : IntKind.i64.wrap (x - 1) = xm := by rw [← hxm, IntKind.wrap_i64, wrap64]
            have hxm' := Aside0.mk (show xm = x - 1 by rw [← hxm]; have := HP9.out; have := HQ9.out; have := HLn.out; exact wrap_small (by omega) (by omega))
            have p1 : 0 ≤ xm := by have := of_decide_eq_true d0; have := hxm'.out; omega
            have q1 : xm < (l0.length : Int) := by have := hxm'.out; have := HQ9.out; omega
            obtain ⟨ad', ea, g2, g3⟩ := at_S HR0.out xm p1 q1
            cases ea
            replace g2 := (HB.out.cell (World.block_lt_of_cell? w _ g2)).trans g2
            clear g3
            have g4 : (wr.alloc (.cells #[.int .i64 (rdS l0 x).f0, .float .f64 (rdS l0 x).f1] 38 (0, 0))).cell? (ad111.add (xm.toNat * 2)) = some (.int .i64 (rdS l0 xm).f0) := (((Below.refl wr.heap.size wr).alloc (Nat.le_refl _) _).cell (World.block_lt_of_cell? wr _ g2)).trans g2
            replace p1 := eq_true p1
            replace q1 := eq_true q1
            cases d2 : decide ((rdS l0 xm).f0 ≤ (rdS l0 x).f0)
            · have hd2 := Aside0.mk d2
              cases d3 : kn (rdS l0 x).f1
              · have d3' := Aside0.mk d3
                go_wp2
                go_quiet (first | (go_at_call 72; refine Calls.quiet_of_same ((implIn_any _ _ _ _).mono (fun _ _ h => ⟨h.1, h.2.symm⟩))) | (go_at_call 21; refine Calls.quiet_of_same ((implKnown_any _ HLt.out _).mono (fun _ _ h => ⟨h.1, h.2.symm⟩))))
                go_wp2
                go_ret
                exact ⟨by rw [AO_not HLn.out HP9.out HQ9.out (badD d3'.out)]; rfl, by repeat (first | (with_reducible first | exact HB.out | apply below_alloc | apply pw_below_drewN | apply below_drew1) | exact HB.out)⟩
              · cases d4 : (FloatKind.f64.format.order (rdS l0 x).f1 13864612927836782592 == some .lt)
                · cases d5 : (FloatKind.f64.format.order (rdS l0 x).f1 4641240890982006784 == some .gt)
                  · have inb := Aside0.mk inb
                    go_wp2
                    go_quiet (first | (go_at_call 72; refine Calls.quiet_of_same ((implIn_any _ _ _ _).mono (fun _ _ h => ⟨h.1, h.2.symm⟩))) | (go_at_call 21; refine Calls.quiet_of_same ((implKnown_any _ HLt.out _).mono (fun _ _ h => ⟨h.1, h.2.symm⟩))))
                    go_wp2
                    go_roundg k1
                    case measure => omega
                    case rel => exact ⟨x + 1, by rw [HW1.out], ⟨by have := HX.out; omega, by have := HX.out; omega, wel_next HP9.out HX.out.2.2 (badNo (inb.out) (prev1 hd0.out hxm'.out hd2.out) d3 d4 d5)⟩, ⟨by repeat (first | (with_reducible first | exact HB.out | apply below_alloc | apply pw_below_drewN | apply below_drew1) | exact HB.out)⟩⟩
                  · have d5' := Aside0.mk d5
                    go_wp2
                    go_quiet (first | (go_at_call 72; refine Calls.quiet_of_same ((implIn_any _ _ _ _).mono (fun _ _ h => ⟨h.1, h.2.symm⟩))) | (go_at_call 21; refine Calls.quiet_of_same ((implKnown_any _ HLt.out _).mono (fun _ _ h => ⟨h.1, h.2.symm⟩))))
                    go_wp2
                    go_ret
                    exact ⟨by rw [AO_not HLn.out HP9.out HQ9.out (badF d5'.out)]; rfl, by repeat (first | (with_reducible first | exact HB.out | apply below_alloc | apply pw_below_drewN | apply below_drew1) | exact HB.out)⟩
                · have d4' := Aside0.mk d4
                  go_wp2
                  go_quiet (first | (go_at_call 72; refine Calls.quiet_of_same ((implIn_any _ _ _ _).mono (fun _ _ h => ⟨h.1, h.2.symm⟩))) | (go_at_call 21; refine Calls.quiet_of_same ((implKnown_any _ HLt.out _).mono (fun _ _ h => ⟨h.1, h.2.symm⟩))))
                  go_wp2
                  go_ret
                  exact ⟨by rw [AO_not HLn.out HP9.out HQ9.out (badE d4'.out)]; rfl, by repeat (first | (with_reducible first | exact HB.out | apply below_alloc | apply pw_below_drewN | apply below_drew1) | exact HB.out)⟩
            · have hd2 := Aside0.mk d2
              go_wp2
              go_quiet (first | (go_at_call 72; refine Calls.quiet_of_same ((implIn_any _ _ _ _).mono (fun _ _ h => ⟨h.1, h.2.symm⟩))) | (go_at_call 21; refine Calls.quiet_of_same ((implKnown_any _ HLt.out _).mono (fun _ _ h => ⟨h.1, h.2.symm⟩))))
              go_wp2
              go_ret
              exact ⟨by rw [AO_not HLn.out HP9.out HQ9.out (badC (prev1 hd0.out hxm'.out hd2.out))]; rfl, by repeat (first | (with_reducible first | exact HB.out | apply below_alloc | apply pw_below_drewN | apply below_drew1) | exact HB.out)⟩

theorem sz_any (A0 : Option Addr) (c0 : Nat) (n : Nat) (w : World) (hn : n ≤ 9223372036854775807) (v : Int) (hv : (if n ≤ 1048576 then 1048576 - (n : Int) else -1) = v) : Calls Try.prog 59 #[.slice A0 n c0, .int .i64 1048576] w fun e w' => e = .returned (.int .i64 v) ∧ w' = w := by
  subst hv
  have hw : wrap64 (1048576 - (n : Int)) = 1048576 - (n : Int) := by unfold wrap64; omega
  by_cases hm : n ≤ 1048576
  · rw [if_pos hm]
    obtain ⟨y, hy⟩ : ∃ y, 1048576 - (n : Int) = y := ⟨_, rfl⟩
    rw [hy]
    replace hw := hw.trans hy
    have e0 : decide (y < 0) = false := decide_eq_false (by omega)
    clear hm hy hn
    go_enter Try.func59, Try.ntmps59
    go_wp2
    go_ret
    exact ⟨by show Ending.returned (.int .i64 (wrap64 (1048576 - (n : Int)))) = _; rw [hw], rfl⟩
  · rw [if_neg hm]
    obtain ⟨y, hy⟩ : ∃ y, 1048576 - (n : Int) = y := ⟨_, rfl⟩
    replace hw := hw.trans hy
    have e0 : decide (y < 0) = true := decide_eq_true (by omega)
    clear hm hy hn
    go_enter Try.func59, Try.ntmps59
    go_wp2
    go_ret
    exact ⟨rfl, rfl⟩

set_option maxHeartbeats 8000000 in
theorem lawAscentOk (A0 : Option Addr) (c0 : Nat) (l0 : List S2) (w : World) (hr0 : Kd.C kd2 w A0 l0.length l0) (hc0 : l0.length ≤ c0) (hlt : ∀ p ∈ l0, p.f1 < 18446744073709551616) :
    Calls Try.prog 17 #[.slice A0 l0.length c0] w fun e w' => e = .returned (.bool true) ∧ Below w.heap.size w w' := by
  have HR0 := Aside0.mk hr0
  have HC0 := Aside0.mk hc0
  have HN := Aside0.mk hr0.2.1
  have HL := Aside0.mk hlt
  clear hlt
  clear hr0 hc0
  have HB := Aside0.mk (Below.refl w.heap.size w)
  by_cases hm : l0.length ≤ 1048576
  · have hi : (if l0.length ≤ 1048576 then 1048576 - (l0.length : Int) else -1) = 1048576 - (l0.length : Int) := if_pos hm
    obtain ⟨y, hy⟩ : ∃ y, 1048576 - (l0.length : Int) = y := ⟨_, rfl⟩
    replace hi := hi.trans hy
    have e0 : decide (y < 0) = false := decide_eq_false (by omega)
    have HM := Aside0.mk hm
    have HI := Aside0.mk hi
    clear hm hy hi
    go_enter Try.func17, Try.ntmps17
    go_wp2_with (first
      | (go_at_call 59; refine (sz_any _ _ _ _ HN.out _ HI.out).mono ?_; rintro e w' ⟨rfl, rfl⟩)
      | (go_at_call 61; refine (toS_reads _ _ l0 _ (by repeat (first | exact HR0.out | refine Kd.C_alloc ?_ _ | refine Kd.C_drewN ?_ _)) HC0.out HM.out).mono ?_; rintro e w' ⟨A, c, rfl, hl, hC, hb⟩; replace HR0 := Aside0.mk (Kd.C_below (by repeat (first | exact HR0.out | refine Kd.C_alloc ?_ _ | refine Kd.C_drewN ?_ _)) hb); replace HB := Aside0.mk (below_step (by repeat (first | (with_reducible first | exact HB.out | apply below_alloc | apply pw_below_drewN | apply below_drew1) | exact HB.out)) hb); (try replace HR2 := Aside0.mk (Kd.C_below (by repeat (first | exact HR2.out | refine Kd.C_alloc ?_ _ | refine Kd.C_drewN ?_ _)) hb)); first | (have z := HR2; clear z; have HR3 := Aside0.mk hC) | (have z := hs'; clear z; have HC2 := Aside0.mk hl; have HR2 := Aside0.mk hC) | (have HC1 := Aside0.mk hl; have HR1 := Aside0.mk hC); clear hC hb hl)
      | (go_at_call 60; refine (specAO_any _ _ _ _ HR1.out HL.out).mono ?_; rintro e w' ⟨rfl, hb⟩; have hs' := Lib.hid hb; replace HB := Aside0.mk (below_step (by repeat (first | (with_reducible first | exact HB.out | apply below_alloc | apply pw_below_drewN | apply below_drew1) | exact HB.out)) hb); replace HR0 := Aside0.mk (Kd.C_below (by repeat (first | exact HR0.out | refine Kd.C_alloc ?_ _ | refine Kd.C_drewN ?_ _)) hb); clear HR1 hb)
      | (go_at_call 62; refine (implAO_any _ _ _ _ HR2.out HL.out).mono ?_; rintro e w' ⟨rfl, hb⟩; replace HB := Aside0.mk (below_step (by repeat (first | (with_reducible first | exact HB.out | apply below_alloc | apply pw_below_drewN | apply below_drew1) | exact HB.out)) hb); replace HR0 := Aside0.mk (Kd.C_below (by repeat (first | exact HR0.out | refine Kd.C_alloc ?_ _ | refine Kd.C_drewN ?_ _)) hb); replace HR2 := Aside0.mk (Kd.C_below (by repeat (first | exact HR2.out | refine Kd.C_alloc ?_ _ | refine Kd.C_drewN ?_ _)) hb); clear hb)
      | (go_at_call 63; refine (eqS_any _ _ _ _ l0 _ (by repeat (first | exact HR2.out | refine Kd.C_alloc ?_ _ | refine Kd.C_drewN ?_ _)) (by repeat (first | exact HR3.out | refine Kd.C_alloc ?_ _ | refine Kd.C_drewN ?_ _)) HM.out).mono ?_; rintro e w' ⟨rfl, hb⟩; replace HB := Aside0.mk (below_step (by repeat (first | (with_reducible first | exact HB.out | apply below_alloc | apply pw_below_drewN | apply below_drew1) | exact HB.out)) hb); clear hb))
    go_ret
    exact ⟨rfl, by repeat (first | (with_reducible first | exact HB.out | apply below_alloc | apply pw_below_drewN | apply below_drew1) | exact HB.out)⟩
  · have HI := Aside0.mk (show (if l0.length ≤ 1048576 then 1048576 - (l0.length : Int) else -1) = -1 from if_neg hm)
    clear hm
    go_enter Try.func17, Try.ntmps17
    go_wp2_with (first | (go_at_call 59; go_loud (first | (refine (sz_any _ _ _ _ HN.out _ HI.out).mono ?_; rintro e w' ⟨rfl, rfl⟩))))
    go_ret
    exact ⟨rfl, Below.refl _ _⟩
end Go.Proofs.Ytbgacfjocjcffaa.Fz
