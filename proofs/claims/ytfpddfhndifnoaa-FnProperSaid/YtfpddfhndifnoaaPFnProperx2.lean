-- PRINTED BY print.sh 35421559b90ae4d0a3588c463048766b98c2df88dd9212a6774a882060cdf62d: not written by this session
import Derived.Test.YtfpddfhndifnoaaPFnProperx0
import Derived.Test.YtfpddfhndifnoaaPFnProperx1
namespace Go.Proofs.Ytfpddfhndifnoaa.PFnProper
open Go.RowKit Go.Proofs.YtfpddfhndifnoaaW.PrintWords Go.Proofs.YtfpddfhndifnoaaW.PrintLast Go.Proofs.YtfpddfhndifnoaaW.PrintMore
attribute [local go_sem] max2_int min2_int max_two min_two max_three min_three max_four min_four   -- for this text's walks alone
set_option linter.unusedVariables false
set_option linter.unusedSimpArgs false

/-! ### laws_FnProper: function 3 -/
mutual
def laws_FnProper.j0 : Nat → List Int → List Int → Bool → Option (Bool)
  | 0, _, _, _ => none
  | k + 1, x0, x1, x19 => if x19 = true then (some true) else ((some (([1, 2, 4, 5, 10, 20, 25, 50, 100] : List Int) : List Int)).bind fun y114 => (if 0 ≤ ((x0.length : Int) % 9) then (if ((x0.length : Int) % 9) < (y114.length : Int) then (if (wrap64 ((rd y114 ((x0.length : Int) % 9)) + 1)) = 0 then (none) else (if (rd y114 ((x0.length : Int) % 9)) = 0 then (none) else (laws_FnProper.l0 k (rd y114 ((x0.length : Int) % 9)) ((x1.length : Int) % (wrap64 ((rd y114 ((x0.length : Int) % 9)) + 1))) (wrap64 (Int.tdiv (wrap64 (100 * ((x1.length : Int) % (wrap64 ((rd y114 ((x0.length : Int) % 9)) + 1))))) (rd y114 ((x0.length : Int) % 9)))) (([] : List (S27))) 0))) else (none)) else (none)))
def laws_FnProper.l0 : Nat → Int → Int → Int → List (S27) → Int → Option (Bool)
  | 0, _, _, _, _, _ => none
  | k + 1, x5, x6, x7, x8, x9 => if x9 < x5 then (if x8.length < 8796093022208 then (laws_FnProper.l0 k x5 x6 x7 (x8 ++ [(⟨x7, decide (x9 < x6)⟩ : S27)]) (wrap64 (x9 + 1))) else (none)) else ((impl_Brier.f k x8).bind fun t124 => ((spec_Brier.f k x8).bind fun t125 => (if t124 = t125 then (laws_FnProper.j2 k x5 x7 x8 t124 (decide (t124 < 0))) else (laws_FnProper.j2 k x5 x7 x8 t124 true))))
def laws_FnProper.j2 : Nat → Int → Int → List (S27) → Int → Bool → Option (Bool)
  | 0, _, _, _, _, _ => none
  | k + 1, x5, x7, x8, x10, x58 => if x58 = true then (some false) else (laws_FnProper.l1 k x5 x7 x8 x10 0)
def laws_FnProper.l1 : Nat → Int → Int → List (S27) → Int → Int → Option (Bool)
  | 0, _, _, _, _, _ => none
  | k + 1, x5, x7, x8, x10, x11 => if x11 ≤ 100 then (laws_FnProper.l2 k x5 x7 x8 x10 x11 0) else (some true)
def laws_FnProper.l2 : Nat → Int → Int → List (S27) → Int → Int → Int → Option (Bool)
  | 0, _, _, _, _, _, _ => none
  | k + 1, x5, x7, x8, x10, x11, x12 => if x12 < x5 then (if 0 ≤ x12 then (if x12 < (x8.length : Int) then (laws_FnProper.l2 k x5 x7 (x8.set (x12 : Int).toNat (⟨x11, (rd_T27 x8 x12).f1⟩ : S27)) x10 x11 (wrap64 (x12 + 1))) else (none)) else (none)) else ((impl_Brier.f k x8).bind fun t127 => (if t127 < x10 then (some false) else (if t127 = x10 then (if x11 = x7 then (laws_FnProper.l1 k x5 x7 x8 x10 (wrap64 (x11 + 1))) else (some false)) else (laws_FnProper.l1 k x5 x7 x8 x10 (wrap64 (x11 + 1))))))
end
def laws_FnProper.f (k : Nat) (l0 : List Int) (l1 : List Int) : Option (Bool) := (laws_big.f l0).bind fun t112 => (if t112 = true then (laws_FnProper.j0 k l0 l1 true) else ((laws_big.f l1).bind fun t113 => (laws_FnProper.j0 k l0 l1 t113)))
theorem laws_FnProper.mono_l : ∀ k, (∀ y0 y1 y2, LeO (laws_FnProper.j0 k y0 y1 y2) (laws_FnProper.j0 (k + 1) y0 y1 y2)) ∧ (∀ y0 y1 y2 y3 y4, LeO (laws_FnProper.l0 k y0 y1 y2 y3 y4) (laws_FnProper.l0 (k + 1) y0 y1 y2 y3 y4)) ∧ (∀ y0 y1 y2 y3 y4, LeO (laws_FnProper.j2 k y0 y1 y2 y3 y4) (laws_FnProper.j2 (k + 1) y0 y1 y2 y3 y4)) ∧ (∀ y0 y1 y2 y3 y4, LeO (laws_FnProper.l1 k y0 y1 y2 y3 y4) (laws_FnProper.l1 (k + 1) y0 y1 y2 y3 y4)) ∧ (∀ y0 y1 y2 y3 y4 y5, LeO (laws_FnProper.l2 k y0 y1 y2 y3 y4 y5) (laws_FnProper.l2 (k + 1) y0 y1 y2 y3 y4 y5))
  | 0 => ⟨fun _ _ _ r h => by simp [laws_FnProper.j0] at h, fun _ _ _ _ _ r h => by simp [laws_FnProper.l0] at h, fun _ _ _ _ _ r h => by simp [laws_FnProper.j2] at h, fun _ _ _ _ _ r h => by simp [laws_FnProper.l1] at h, fun _ _ _ _ _ _ r h => by simp [laws_FnProper.l2] at h⟩
  | k + 1 => by
    obtain ⟨ih0, ih1, ih2, ih3, ih4⟩ := laws_FnProper.mono_l k
    refine ⟨?_, ?_, ?_, ?_, ?_⟩
    · intro y0 y1 y2
      unfold laws_FnProper.j0
      repeat' first
      | (with_reducible exact ih0 _ _ _)
      | (with_reducible exact ih1 _ _ _ _ _)
      | (with_reducible exact ih2 _ _ _ _ _)
      | (with_reducible exact ih3 _ _ _ _ _)
      | (with_reducible exact ih4 _ _ _ _ _ _)
      | (with_reducible exact impl_Brier.mono _ _)
      | (with_reducible exact spec_Brier.mono _ _)
      | (with_reducible exact LeO.refl _)
      | (with_reducible exact LeO.none _)
      | (with_reducible refine LeO.ite ?_ ?_)
      | (with_reducible refine LeO.bind ?_ (fun _ => ?_))
      | exact ih0 _ _ _
      | exact ih1 _ _ _ _ _
      | exact ih2 _ _ _ _ _
      | exact ih3 _ _ _ _ _
      | exact ih4 _ _ _ _ _ _
      | exact impl_Brier.mono _ _
      | exact spec_Brier.mono _ _
      | exact LeO.none _
      | refine LeO.ite ?_ ?_
      | refine LeO.bind ?_ (fun _ => ?_)
    · intro y0 y1 y2 y3 y4
      unfold laws_FnProper.l0
      repeat' first
      | (with_reducible exact ih0 _ _ _)
      | (with_reducible exact ih1 _ _ _ _ _)
      | (with_reducible exact ih2 _ _ _ _ _)
      | (with_reducible exact ih3 _ _ _ _ _)
      | (with_reducible exact ih4 _ _ _ _ _ _)
      | (with_reducible exact impl_Brier.mono _ _)
      | (with_reducible exact spec_Brier.mono _ _)
      | (with_reducible exact LeO.refl _)
      | (with_reducible exact LeO.none _)
      | (with_reducible refine LeO.ite ?_ ?_)
      | (with_reducible refine LeO.bind ?_ (fun _ => ?_))
      | exact ih0 _ _ _
      | exact ih1 _ _ _ _ _
      | exact ih2 _ _ _ _ _
      | exact ih3 _ _ _ _ _
      | exact ih4 _ _ _ _ _ _
      | exact impl_Brier.mono _ _
      | exact spec_Brier.mono _ _
      | exact LeO.none _
      | refine LeO.ite ?_ ?_
      | refine LeO.bind ?_ (fun _ => ?_)
    · intro y0 y1 y2 y3 y4
      unfold laws_FnProper.j2
      repeat' first
      | (with_reducible exact ih0 _ _ _)
      | (with_reducible exact ih1 _ _ _ _ _)
      | (with_reducible exact ih2 _ _ _ _ _)
      | (with_reducible exact ih3 _ _ _ _ _)
      | (with_reducible exact ih4 _ _ _ _ _ _)
      | (with_reducible exact impl_Brier.mono _ _)
      | (with_reducible exact spec_Brier.mono _ _)
      | (with_reducible exact LeO.refl _)
      | (with_reducible exact LeO.none _)
      | (with_reducible refine LeO.ite ?_ ?_)
      | (with_reducible refine LeO.bind ?_ (fun _ => ?_))
      | exact ih0 _ _ _
      | exact ih1 _ _ _ _ _
      | exact ih2 _ _ _ _ _
      | exact ih3 _ _ _ _ _
      | exact ih4 _ _ _ _ _ _
      | exact impl_Brier.mono _ _
      | exact spec_Brier.mono _ _
      | exact LeO.none _
      | refine LeO.ite ?_ ?_
      | refine LeO.bind ?_ (fun _ => ?_)
    · intro y0 y1 y2 y3 y4
      unfold laws_FnProper.l1
      repeat' first
      | (with_reducible exact ih0 _ _ _)
      | (with_reducible exact ih1 _ _ _ _ _)
      | (with_reducible exact ih2 _ _ _ _ _)
      | (with_reducible exact ih3 _ _ _ _ _)
      | (with_reducible exact ih4 _ _ _ _ _ _)
      | (with_reducible exact impl_Brier.mono _ _)
      | (with_reducible exact spec_Brier.mono _ _)
      | (with_reducible exact LeO.refl _)
      | (with_reducible exact LeO.none _)
      | (with_reducible refine LeO.ite ?_ ?_)
      | (with_reducible refine LeO.bind ?_ (fun _ => ?_))
      | exact ih0 _ _ _
      | exact ih1 _ _ _ _ _
      | exact ih2 _ _ _ _ _
      | exact ih3 _ _ _ _ _
      | exact ih4 _ _ _ _ _ _
      | exact impl_Brier.mono _ _
      | exact spec_Brier.mono _ _
      | exact LeO.none _
      | refine LeO.ite ?_ ?_
      | refine LeO.bind ?_ (fun _ => ?_)
    · intro y0 y1 y2 y3 y4 y5
      unfold laws_FnProper.l2
      repeat' first
      | (with_reducible exact ih0 _ _ _)
      | (with_reducible exact ih1 _ _ _ _ _)
      | (with_reducible exact ih2 _ _ _ _ _)
      | (with_reducible exact ih3 _ _ _ _ _)
      | (with_reducible exact ih4 _ _ _ _ _ _)
      | (with_reducible exact impl_Brier.mono _ _)
      | (with_reducible exact spec_Brier.mono _ _)
      | (with_reducible exact LeO.refl _)
      | (with_reducible exact LeO.none _)
      | (with_reducible refine LeO.ite ?_ ?_)
      | (with_reducible refine LeO.bind ?_ (fun _ => ?_))
      | exact ih0 _ _ _
      | exact ih1 _ _ _ _ _
      | exact ih2 _ _ _ _ _
      | exact ih3 _ _ _ _ _
      | exact ih4 _ _ _ _ _ _
      | exact impl_Brier.mono _ _
      | exact spec_Brier.mono _ _
      | exact LeO.none _
      | refine LeO.ite ?_ ?_
      | refine LeO.bind ?_ (fun _ => ?_)
theorem laws_FnProper.mono : ∀ a0 a1 k, LeO (laws_FnProper.f k a0 a1) (laws_FnProper.f (k + 1) a0 a1) := by
  intro a0 a1 k
  obtain ⟨ih0, ih1, ih2, ih3, ih4⟩ := laws_FnProper.mono_l k
  unfold laws_FnProper.f
  repeat' first
      | (with_reducible exact ih0 _ _ _)
      | (with_reducible exact ih1 _ _ _ _ _)
      | (with_reducible exact ih2 _ _ _ _ _)
      | (with_reducible exact ih3 _ _ _ _ _)
      | (with_reducible exact ih4 _ _ _ _ _ _)
      | (with_reducible exact impl_Brier.mono _ _)
      | (with_reducible exact spec_Brier.mono _ _)
      | (with_reducible exact LeO.refl _)
      | (with_reducible exact LeO.none _)
      | (with_reducible refine LeO.ite ?_ ?_)
      | (with_reducible refine LeO.bind ?_ (fun _ => ?_))
      | exact ih0 _ _ _
      | exact ih1 _ _ _ _ _
      | exact ih2 _ _ _ _ _
      | exact ih3 _ _ _ _ _
      | exact ih4 _ _ _ _ _ _
      | exact impl_Brier.mono _ _
      | exact spec_Brier.mono _ _
      | exact LeO.none _
      | refine LeO.ite ?_ ?_
      | refine LeO.bind ?_ (fun _ => ?_)
set_option maxHeartbeats 8000000 in
set_option maxRecDepth 100000 in
theorem laws_FnProper.calls (k : Nat) (A0 : Option Addr) (c0 : Nat) (l0 : List Int) (A1 : Option Addr) (c1 : Nat) (l1 : List Int) (r : Bool) (w : World) (hr0 : Kd.C (Kd.int .u8) w A0 l0.length l0) (hc0 : l0.length ≤ c0) (hr1 : Kd.C (Kd.int .u8) w A1 l1.length l1) (hc1 : l1.length ≤ c1) (h : laws_FnProper.f k l0 l1 = some r) :
    Calls Try.prog 3 #[.slice A0 l0.length c0, .slice A1 l1.length c1] w fun e w' => e = .returned (.bool r) ∧ Below w.heap.size w w' := by
  have hu27 := Try.underlying27
  have HR0 := Aside0.mk hr0
  have HC0 := Aside0.mk hc0
  clear hr0 hc0
  have HR1 := Aside0.mk hr1
  have HC1 := Aside0.mk hc1
  clear hr1 hc1
  have HB := Aside0.mk (Below.refl w.heap.size w)
  have H : ((laws_big.f l0).bind fun t112 => (if t112 = true then (laws_FnProper.j0 k l0 l1 true) else ((laws_big.f l1).bind fun t113 => (laws_FnProper.j0 k l0 l1 t113)))) = some r := h
  clear h
  have HC3 := Aside0.mk H
  clear H
  go_enter Try.func3, Try.ntmps3
  go_upto_region 1 with (fail)
  go_cut [19] (fun v19 wc => ∃ (kq : Nat) (x19_2 : Bool), v19 = .bool x19_2 ∧ Aside0 (laws_FnProper.j0 kq l0 l1 x19_2 = some r) ∧ Aside0 (kq ≤ k) ∧ Aside0 (Below w.heap.size w wc))
  case first =>
    have H := HC3.out
    clear HC3
    replace H := Option.bind_eq_some_iff.mp H
    obtain ⟨t112, A40, H⟩ := H
    replace H : (if t112 = true then (laws_FnProper.j0 k l0 l1 true) else ((laws_big.f l1).bind fun t113 => (laws_FnProper.j0 k l0 l1 t113))) = some r := H
    have A4 := Aside0.mk A40
    clear A40
    by_cases c5 : t112 = true
    · subst c5
      have H1 : (laws_FnProper.j0 k l0 l1 true) = some r := by rw [if_pos rfl] at H; exact H
      clear H
      have H := H1
      clear H1
      have H' := Aside0.mk H
      clear H
      go_wp2_with (first | ((with_reducible refine gate_callee (f := 15) rfl ?_); refine goesL_ (some 15) rfl rfl Try.func15 (by kernel_rfl) rfl #[.slice A0 l0.length c0] rfl (by (try simp only [List.map_toArray, List.map_cons, List.map_nil]); first | done | rfl | (simp only [List.length_drop, List.length_take]; rfl)) ?_; (with_reducible refine (laws_big.calls _ _ l0 true _ ?side1 ?side2 A4.out).mono ?_); (case side1 => repeat (first | exact (Kd.C_below HR0.out HB.out) | (with_reducible refine Kd.C_alloc ?_ _) | (with_reducible refine Kd.C_drewN ?_ _) | (with_reducible refine Kd.C_drew ?_))); (case side2 => exact HC0.out); rintro e w' ⟨rfl, ⟨nd, rfl⟩⟩; refine ⟨_, rfl, ?_⟩))
      go_meet
      case rel => exact ⟨_, (true), (by first | rfl | (simp; done) | (simp [*]; done)), H', ⟨by first | omega | exact Nat.le_refl _⟩, ⟨by repeat (first | (with_reducible first | exact HB.out | apply below_alloc | apply pw_below_drewN | apply below_drew1) | exact HB.out)⟩⟩
    · replace c5 := Bool.eq_false_iff.mpr c5
      subst c5
      have H1 : ((laws_big.f l1).bind fun t113 => (laws_FnProper.j0 k l0 l1 t113)) = some r := by rw [if_neg (show ¬ (false = true) by decide)] at H; exact H
      clear H
      have H := H1
      clear H1
      replace H := Option.bind_eq_some_iff.mp H
      obtain ⟨t113, A60, H⟩ := H
      replace H : (laws_FnProper.j0 k l0 l1 t113) = some r := H
      have A6 := Aside0.mk A60
      clear A60
      have H' := Aside0.mk H
      clear H
      go_wp2_with (first | ((with_reducible refine gate_callee (f := 15) rfl ?_); refine goesL_ (some 15) rfl rfl Try.func15 (by kernel_rfl) rfl #[.slice A0 l0.length c0] rfl (by (try simp only [List.map_toArray, List.map_cons, List.map_nil]); first | done | rfl | (simp only [List.length_drop, List.length_take]; rfl)) ?_; (with_reducible refine (laws_big.calls _ _ l0 false _ ?side1 ?side2 A4.out).mono ?_); (case side1 => repeat (first | exact (Kd.C_below HR0.out HB.out) | (with_reducible refine Kd.C_alloc ?_ _) | (with_reducible refine Kd.C_drewN ?_ _) | (with_reducible refine Kd.C_drew ?_))); (case side2 => exact HC0.out); rintro e w' ⟨rfl, ⟨nd, rfl⟩⟩; refine ⟨_, rfl, ?_⟩) | (go_at_call 15; (with_reducible refine (laws_big.calls _ _ l1 t113 _ ?side1 ?side2 A6.out).mono ?_); (case side1 => repeat (first | exact (Kd.C_below HR1.out (by repeat (first | (with_reducible first | exact HB.out | apply below_alloc | apply pw_below_drewN | apply below_drew1) | exact HB.out))) | (with_reducible refine Kd.C_alloc ?_ _) | (with_reducible refine Kd.C_drewN ?_ _) | (with_reducible refine Kd.C_drew ?_))); (case side2 => exact HC1.out); rintro e w' ⟨rfl, ⟨nd, rfl⟩⟩))
      go_meet
      case rel => exact ⟨_, (t113), (by first | rfl | (simp; done) | (simp [*]; done)), H', ⟨by first | omega | exact Nat.le_refl _⟩, ⟨by repeat (first | (with_reducible first | exact HB.out | apply below_alloc | apply pw_below_drewN | apply below_drew1) | exact HB.out)⟩⟩
  case rest =>
    clear HC3
    try clear c1
    try clear p2
    try clear c3
    try clear c5
    obtain ⟨kq, x19_2, rfl, HA, HJ2, HB⟩ := hcut
    cases kq with
    | zero => exact absurd HA.out (by simp [laws_FnProper.j0])
    | succ kj2 =>
      have H := HA.out
      clear HA
      simp only [laws_FnProper.j0] at H
      by_cases c7 : x19_2 = true
      · subst c7
        have H1 : (some true) = some r := by rw [if_pos rfl] at H; exact H
        clear H
        have H := H1
        clear H1
        obtain rfl := Option.some.inj H
        go_wp2
        go_ret
        exact ⟨by first | rfl | (simp [errW_none, errW_some] <;> rfl) | (simp [*, errW_none, errW_some] <;> rfl), by repeat (first | (with_reducible first | exact HB.out | apply below_alloc | apply pw_below_drewN | apply below_drew1) | exact HB.out)⟩
      · replace c7 := Bool.eq_false_iff.mpr c7
        subst c7
        have H1 : ((some (([1, 2, 4, 5, 10, 20, 25, 50, 100] : List Int) : List Int)).bind fun y114 => (if 0 ≤ ((l0.length : Int) % 9) then (if ((l0.length : Int) % 9) < (y114.length : Int) then (if (wrap64 ((rd y114 ((l0.length : Int) % 9)) + 1)) = 0 then (none) else (if (rd y114 ((l0.length : Int) % 9)) = 0 then (none) else (laws_FnProper.l0 kj2 (rd y114 ((l0.length : Int) % 9)) ((l1.length : Int) % (wrap64 ((rd y114 ((l0.length : Int) % 9)) + 1))) (wrap64 (Int.tdiv (wrap64 (100 * ((l1.length : Int) % (wrap64 ((rd y114 ((l0.length : Int) % 9)) + 1))))) (rd y114 ((l0.length : Int) % 9)))) (([] : List (S27))) 0))) else (none)) else (none))) = some r := by rw [if_neg (show ¬ (false = true) by decide)] at H; exact H
        clear H
        have H := H1
        clear H1
        obtain ⟨y114, hy114⟩ : ∃ y_ : List Int, y_ = (([1, 2, 4, 5, 10, 20, 25, 50, 100] : List Int)) := ⟨_, rfl⟩
        replace H : (if 0 ≤ ((l0.length : Int) % 9) then (if ((l0.length : Int) % 9) < (y114.length : Int) then (if (wrap64 ((rd y114 ((l0.length : Int) % 9)) + 1)) = 0 then (none) else (if (rd y114 ((l0.length : Int) % 9)) = 0 then (none) else (laws_FnProper.l0 kj2 (rd y114 ((l0.length : Int) % 9)) ((l1.length : Int) % (wrap64 ((rd y114 ((l0.length : Int) % 9)) + 1))) (wrap64 (Int.tdiv (wrap64 (100 * ((l1.length : Int) % (wrap64 ((rd y114 ((l0.length : Int) % 9)) + 1))))) (rd y114 ((l0.length : Int) % 9)))) (([] : List (S27))) 0))) else (none)) else (none)) = some r := by first | (rw [hy114]; with_reducible exact H) | (have H2_ := (Option.bind_some _ _).symm.trans H; rw [hy114]; with_reducible exact H2_) | (have H2_ := (Option.bind_some _ _).symm.trans H; with_reducible exact H2_) | with_reducible exact H | (rw [hy114]; exact H) | exact H
        have Ny114 := Aside0.mk hy114
        clear hy114
        obtain ⟨ji8, hji8⟩ : ∃ j_ : Int, ((l0.length : Int) % 9) = j_ := ⟨_, rfl⟩
        replace H : (if 0 ≤ (ji8) then (if (ji8) < (y114.length : Int) then (if (wrap64 ((rd y114 (ji8)) + 1)) = 0 then (none) else (if (rd y114 (ji8)) = 0 then (none) else (laws_FnProper.l0 kj2 (rd y114 (ji8)) ((l1.length : Int) % (wrap64 ((rd y114 (ji8)) + 1))) (wrap64 (Int.tdiv (wrap64 (100 * ((l1.length : Int) % (wrap64 ((rd y114 (ji8)) + 1))))) (rd y114 (ji8)))) (([] : List (S27))) 0))) else (none)) else (none)) = some r := by first | (rw [hji8] at H; exact H) | (simp only [hji8] at H ⊢; exact H)
        by_cases c9 : 0 ≤ (ji8)
        · rw [if_pos c9] at H
          have c9b0 : decide (0 ≤ (ji8)) = true := decide_eq_true c9
          clear c9
          by_cases c10 : (ji8) < (y114.length : Int)
          · rw [if_pos c10] at H
            have c10b0 : decide ((ji8) < (y114.length : Int)) = true := decide_eq_true c10
            clear c10
            by_cases c11 : (wrap64 ((rd y114 (ji8)) + 1)) = 0
            · rw [if_pos c11] at H
              exact absurd H (by simp)
            · rw [if_neg c11] at H
              have c11b0 : ((wrap64 ((rd y114 (ji8)) + 1)) == 0) = false := beq_eq_false_iff_ne.mpr c11
              have c11b1 : ((wrap64 ((rd y114 (ji8)) + 1)) != 0) = true := bne_iff_ne.mpr c11
              by_cases c12 : (rd y114 (ji8)) = 0
              · rw [if_pos c12] at H
                exact absurd H (by simp)
              · rw [if_neg c12] at H
                have c12b0 : ((rd y114 (ji8)) == 0) = false := beq_eq_false_iff_ne.mpr c12
                have c12b1 : ((rd y114 (ji8)) != 0) = true := bne_iff_ne.mpr c12
                obtain ⟨y118, hy118⟩ : ∃ y_ : List (S27), y_ = (([] : List (S27))) := ⟨_, rfl⟩
                replace H : (laws_FnProper.l0 kj2 (rd y114 (ji8)) ((l1.length : Int) % (wrap64 ((rd y114 (ji8)) + 1))) (wrap64 (Int.tdiv (wrap64 (100 * ((l1.length : Int) % (wrap64 ((rd y114 (ji8)) + 1))))) (rd y114 (ji8)))) y118 0) = some r := by first | (rw [hy118]; with_reducible exact H) | (have H2_ := (Option.bind_some _ _).symm.trans H; rw [hy118]; with_reducible exact H2_) | (have H2_ := (Option.bind_some _ _).symm.trans H; with_reducible exact H2_) | with_reducible exact H | (rw [hy118]; exact H) | exact H
                have Ny118 := Aside0.mk hy118
                clear hy118
                have H' := Aside0.mk H
                clear H
                go_wp2_with (first | ((with_reducible refine gate_dst (N := 20) rfl ?_); refine Kd.R_lit (Kd.int .i64) _ 3 ?hg (N := 20) ?hd (xs := ([1, 2, 4, 5, 10, 20, 25, 50, 100] : List Int)) (inner := [.int .i64 1, .int .i64 2, .int .i64 4, .int .i64 5, .int .i64 10, .int .i64 20, .int .i64 25, .int .i64 50, .int .i64 100]) (ok := fun _ => True) (okp := fun _ => True) ?hr ?hp (fun _ hk => hk) trivial (Below.refl _ _) (Nat.le_refl _) (by simp) ?_; (case hd => rfl); (case hg => rfl); (case hr => first | (go_simp; done) | (go_simp; rfl)); (case hp => exact (Reps.one (show Kd.M (Kd.int .i64) _ _ _ 1 [.int .i64 1] from rfl) (Reps.one (show Kd.M (Kd.int .i64) _ _ _ 2 [.int .i64 2] from rfl) (Reps.one (show Kd.M (Kd.int .i64) _ _ _ 4 [.int .i64 4] from rfl) (Reps.one (show Kd.M (Kd.int .i64) _ _ _ 5 [.int .i64 5] from rfl) (Reps.one (show Kd.M (Kd.int .i64) _ _ _ 10 [.int .i64 10] from rfl) (Reps.one (show Kd.M (Kd.int .i64) _ _ _ 20 [.int .i64 20] from rfl) (Reps.one (show Kd.M (Kd.int .i64) _ _ _ 25 [.int .i64 25] from rfl) (Reps.one (show Kd.M (Kd.int .i64) _ _ _ 50 [.int .i64 50] from rfl) (Reps.one (show Kd.M (Kd.int .i64) _ _ _ 100 [.int .i64 100] from rfl) (Reps.none _ _))))))))))); intro v115 w13 ho14 hb hg_ hnew_; clear hg_ hnew_; (first | rw [← Ny114.out] at ho14 | (simp only [Int.reduceToNat] at ho14; rw [← Ny114.out] at ho14)); have n0_ := Aside0.mk (Kd.R_lower ho14 (below_size (by repeat (first | (with_reducible first | exact HB.out | apply below_alloc | apply pw_below_drewN | apply below_drew1) | exact HB.out)))); have n1_ := Aside0.mk (below_step (by repeat (first | (with_reducible first | exact HB.out | apply below_alloc | apply pw_below_drewN | apply below_drew1) | exact HB.out)) hb); clear HB; have HO116 := n0_; have HB := n1_; clear n0_ n1_; clear hb ho14; obtain ⟨Ao15, co15, eo15⟩ := Kd.R_slice HO116.out; subst eo15; have p117 : 0 ≤ ((ji8) : Int) := of_decide_eq_true (by first | (with_reducible assumption) | assumption); have q117 : (ji8) < (y114.length : Int) := of_decide_eq_true (by first | (with_reducible assumption) | assumption); obtain ⟨ad117, e117, hx117_0⟩ := Kd.at_int (Kd.R_reads' HO116.out).2.2 (ji8) p117 q117; cases e117; replace p117 := eq_true p117; replace q117 := eq_true q117) | ((with_reducible refine gate_dst (N := 35) rfl ?_); refine Kd.R_lit k27 _ 27 ?hg (N := 35) ?hd (xs := ([] : List (S27))) (inner := []) (ok := fun _ => True) (okp := fun _ => True) ?hr ?hp (fun _ hk => hk) trivial (Below.refl _ _) (Nat.le_refl _) (by simp) ?_; (case hd => rfl); (case hg => rfl); (case hr => first | (go_simp; done) | (go_simp; rfl)); (case hp => exact (Reps.none _ _)); intro v119 w16 ho17 hb hg_ hnew_; clear hg_ hnew_; (first | rw [← Ny118.out] at ho17 | (simp only [Int.reduceToNat] at ho17; rw [← Ny118.out] at ho17)); have n0_ := Aside0.mk (Kd.R_below (by (with_reducible repeat (first | apply Kd.R_alloc | apply Kd.R_drewN | apply Kd.R_drew)); exact HO116.out) hb); have n1_ := Aside0.mk (Kd.R_lower ho17 (below_size (by repeat (first | (with_reducible first | exact HB.out | apply below_alloc | apply pw_below_drewN | apply below_drew1) | exact HB.out)))); have n2_ := Aside0.mk (below_step (by repeat (first | (with_reducible first | exact HB.out | apply below_alloc | apply pw_below_drewN | apply below_drew1) | exact HB.out)) hb); clear HO116; clear HB; have HO116 := n0_; have HO120 := n1_; have HB := n2_; clear n0_ n1_ n2_; clear hb ho17))
                go_loopg [8, 9] kj2 (fun kq v8 v9 w' => ∃ (x8_2 : List (S27)) (x9_2 : Int), v9 = .int .i64 x9_2 ∧ Aside0 (laws_FnProper.l0 kq (rd y114 (ji8)) ((l1.length : Int) % (wrap64 ((rd y114 (ji8)) + 1))) (wrap64 (Int.tdiv (wrap64 (100 * ((l1.length : Int) % (wrap64 ((rd y114 (ji8)) + 1))))) (rd y114 (ji8)))) x8_2 x9_2 = some r) ∧ Aside0 (kq ≤ kj2) ∧ Aside0 (Kd.R k27 27 w' w.heap.size (fun _ => True) v8 x8_2) ∧ Aside0 (Below w.heap.size w w'))
                case atStart => exact ⟨(y118), (0), (by first | rfl | (simp; done) | (simp [*]; done)), H', ⟨Nat.le_refl _⟩, ⟨by (with_reducible repeat (first | apply Kd.R_alloc | apply Kd.R_drewN | apply Kd.R_drew)); exact HO120.out⟩, ⟨by repeat (first | (with_reducible first | exact HB.out | apply below_alloc | apply pw_below_drewN | apply below_drew1) | exact HB.out)⟩⟩
                case round =>
                  clear H'
                  try clear c1
                  try clear p1
                  try clear q1
                  try clear hx1
                  try clear p2
                  try clear c3
                  try clear c5
                  try clear p6
                  try clear c7
                  try clear c9
                  try clear c9b0
                  try clear c10
                  try clear c10b0
                  try clear c11
                  try clear c11b0
                  try clear c11b1
                  try clear p11
                  try clear q11
                  try clear hx11
                  try clear c12
                  try clear c12b0
                  try clear c12b1
                  try clear c15
                  try clear hx117_0
                  try clear p117
                  try clear p2
                  try clear q117
                  obtain ⟨x8_2, x9_2, rfl, HA, HK2, HO_8, HB⟩ := hrel
                  cases gk with
                  | zero => exact absurd HA.out (by simp [laws_FnProper.l0])
                  | succ k2 =>
                    have H := HA.out
                    clear HA
                    simp only [laws_FnProper.l0] at H
                    by_cases c18 : x9_2 < (rd y114 (ji8))
                    · rw [if_pos c18] at H
                      have c18b0 : decide (x9_2 < (rd y114 (ji8))) = true := decide_eq_true c18
                      clear c18
                      by_cases c19 : x8_2.length < 8796093022208
                      · rw [if_pos c19] at H
                        have LMc19 := Aside0.mk c19
                        clear c19
                        obtain ⟨y121, hy121⟩ : ∃ y_ : List (S27), y_ = (x8_2 ++ [(⟨(wrap64 (Int.tdiv (wrap64 (100 * ((l1.length : Int) % (wrap64 ((rd y114 (ji8)) + 1))))) (rd y114 (ji8)))), decide (x9_2 < ((l1.length : Int) % (wrap64 ((rd y114 (ji8)) + 1))))⟩ : S27)]) := ⟨_, rfl⟩
                        replace H : (laws_FnProper.l0 k2 (rd y114 (ji8)) ((l1.length : Int) % (wrap64 ((rd y114 (ji8)) + 1))) (wrap64 (Int.tdiv (wrap64 (100 * ((l1.length : Int) % (wrap64 ((rd y114 (ji8)) + 1))))) (rd y114 (ji8)))) y121 (wrap64 (x9_2 + 1))) = some r := by first | (rw [hy121]; with_reducible exact H) | (have H2_ := (Option.bind_some _ _).symm.trans H; rw [hy121]; with_reducible exact H2_) | (have H2_ := (Option.bind_some _ _).symm.trans H; with_reducible exact H2_) | with_reducible exact H | (rw [hy121]; exact H) | exact H
                        have Ny121 := Aside0.mk hy121
                        clear hy121
                        have H' := Aside0.mk H
                        clear H
                        go_wp2_with (first | ((with_reducible refine gate_builtin (b := .append) (xs := #[.tmp 41, .tmp 47]) rfl ?_); at_builtin; refine Kd.R_append k27 (w0 := w) w.heap.size rfl (.tmp 41) (.tmp 47) 25 27 (.agg #[(.int .i64 0), (.bool false)]) 16 rfl Try.underlying25 info27 rfl (by decide) (by omega) u8 x8_2 (⟨(wrap64 (Int.tdiv (wrap64 (100 * ((l1.length : Int) % (wrap64 ((rd y114 (ji8)) + 1))))) (rd y114 (ji8)))), decide (x9_2 < ((l1.length : Int) % (wrap64 ((rd y114 (ji8)) + 1))))⟩ : S27) [.int .i64 (wrap64 (Int.tdiv (wrap64 (100 * ((l1.length : Int) % (wrap64 ((rd y114 (ji8)) + 1))))) (rd y114 (ji8)))), .bool (decide (x9_2 < ((l1.length : Int) % (wrap64 ((rd y114 (ji8)) + 1)))))] (fun _ => True) (fun _ => False) rfl rfl ?aP (fun _ hk => hk.elim) ?aF ?aO ?aB ?aS ?aL ?_; (case aP => exact k27_mkM _ _ _ (⟨(wrap64 (Int.tdiv (wrap64 (100 * ((l1.length : Int) % (wrap64 ((rd y114 (ji8)) + 1))))) (rd y114 (ji8)))), decide (x9_2 < ((l1.length : Int) % (wrap64 ((rd y114 (ji8)) + 1))))⟩ : S27)); (case aB => exact (by repeat (first | (with_reducible first | exact HB.out | apply below_alloc | apply pw_below_drewN | apply below_drew1) | exact HB.out))); (case aF => exact (fun _ _ => trivial)); (case aO => exact (by (with_reducible repeat (first | apply Kd.R_alloc | apply Kd.R_drewN | apply Kd.R_drew)); exact HO_8.out)); (case aS => exact (below_size (by repeat (first | (with_reducible first | exact HB.out | apply below_alloc | apply pw_below_drewN | apply below_drew1) | exact HB.out)))); (case aL => have := LMc19.out; omega); intro v122 w20 ho hb hg hat; rw [← Ny121.out] at ho; have n0_ := Aside0.mk (hb); have n1_ := Aside0.mk (ho); clear HB; clear HO_8; have HB := n0_; have HO123 := n1_; clear n0_ n1_; clear ho hb hg hat))
                        go_roundg k2
                        case measure => have := HJ2.out; have := HK2.out; omega
                        case rel => exact ⟨(y121), (wrap64 (x9_2 + 1)), (by first | rfl | (simp; done) | (simp [*]; done)), H', ⟨by have := HJ2.out; have := HK2.out; omega⟩, ⟨by (with_reducible repeat (first | apply Kd.R_alloc | apply Kd.R_drewN | apply Kd.R_drew)); exact HO123.out⟩, ⟨by repeat (first | (with_reducible first | exact HB.out | apply below_alloc | apply pw_below_drewN | apply below_drew1) | exact HB.out)⟩⟩
                      · rw [if_neg c19] at H
                        exact absurd H (by simp)
                    · rw [if_neg c18] at H
                      have c18b0 : decide (x9_2 < (rd y114 (ji8))) = false := decide_eq_false c18
                      clear c18
                      replace H := Option.bind_eq_some_iff.mp H
                      obtain ⟨t124, A210, H⟩ := H
                      replace H : ((spec_Brier.f k2 x8_2).bind fun t125 => (if t124 = t125 then (laws_FnProper.j2 k2 (rd y114 (ji8)) (wrap64 (Int.tdiv (wrap64 (100 * ((l1.length : Int) % (wrap64 ((rd y114 (ji8)) + 1))))) (rd y114 (ji8)))) x8_2 t124 (decide (t124 < 0))) else (laws_FnProper.j2 k2 (rd y114 (ji8)) (wrap64 (Int.tdiv (wrap64 (100 * ((l1.length : Int) % (wrap64 ((rd y114 (ji8)) + 1))))) (rd y114 (ji8)))) x8_2 t124 true))) = some r := H
                      have A21 := Aside0.mk A210
                      clear A210
                      have HC22 := Aside0.mk H
                      clear H
                      obtain ⟨Ao23, co23, eo23⟩ := Kd.R_slice HO_8.out
                      subst eo23
                      go_upto_region 12 with (first | ((with_reducible refine gate_callee (f := 16) rfl ?_); refine goesL_ (some 50) rfl rfl Try.func16 (by kernel_rfl) rfl #[.slice Ao23 x8_2.length co23] rfl (by (try simp only [List.map_toArray, List.map_cons, List.map_nil]); first | done | rfl | (simp only [List.length_drop, List.length_take]; rfl)) ?_; (with_reducible refine (impl_Brier.calls k2 _ _ x8_2 t124 _ ?side1 ?side2 A21.out).mono ?_); (case side1 => repeat (first | exact (Kd.R_reads' HO_8.out).2.2 | (with_reducible refine Kd.C_alloc ?_ _) | (with_reducible refine Kd.C_drewN ?_ _) | (with_reducible refine Kd.C_drew ?_))); (case side2 => exact (Kd.R_reads' HO_8.out).2.1); rintro e w24 ⟨rfl, hb⟩; refine ⟨_, rfl, ?_⟩; have n0_ := Aside0.mk (Kd.R_below (by (with_reducible repeat (first | apply Kd.R_alloc | apply Kd.R_drewN | apply Kd.R_drew)); exact HO_8.out) hb); have n1_ := Aside0.mk (below_step (by repeat (first | (with_reducible first | exact HB.out | apply below_alloc | apply pw_below_drewN | apply below_drew1) | exact HB.out)) hb); clear HO_8; clear HB; have HO_8 := n0_; have HB := n1_; clear n0_ n1_; (try clear hb); (try clear hb2); (try clear hk); (try clear hi)))
                      (try simp only [Act.put, List.setIfInBounds_toArray, List.set_cons_zero, List.set_cons_succ])
                      go_cut [58] (fun v58 wc => ∃ (kq : Nat) (x58_21 : Bool), v58 = .bool x58_21 ∧ Aside0 (laws_FnProper.j2 kq (rd y114 (ji8)) (wrap64 (Int.tdiv (wrap64 (100 * ((l1.length : Int) % (wrap64 ((rd y114 (ji8)) + 1))))) (rd y114 (ji8)))) x8_2 t124 x58_21 = some r) ∧ Aside0 (kq ≤ k2) ∧ Aside0 (Kd.R k27 27 wc w.heap.size (fun _ => True) (.slice Ao23 x8_2.length co23) x8_2) ∧ Aside0 (Below w.heap.size w wc))
                      case first =>
                        have H := HC22.out
                        clear HC22
                        replace H := Option.bind_eq_some_iff.mp H
                        obtain ⟨t125, A250, H⟩ := H
                        replace H : (if t124 = t125 then (laws_FnProper.j2 k2 (rd y114 (ji8)) (wrap64 (Int.tdiv (wrap64 (100 * ((l1.length : Int) % (wrap64 ((rd y114 (ji8)) + 1))))) (rd y114 (ji8)))) x8_2 t124 (decide (t124 < 0))) else (laws_FnProper.j2 k2 (rd y114 (ji8)) (wrap64 (Int.tdiv (wrap64 (100 * ((l1.length : Int) % (wrap64 ((rd y114 (ji8)) + 1))))) (rd y114 (ji8)))) x8_2 t124 true)) = some r := H
                        have A25 := Aside0.mk A250
                        clear A250
                        by_cases c26 : t124 = t125
                        · rw [if_pos c26] at H
                          have c26b0 : (t124 == t125) = true := beq_iff_eq.mpr c26
                          have c26b1 : (t124 != t125) = false := bne_eq_false_iff_eq.mpr c26
                          clear c26
                          (first | rw [c26b0] | (simp only [i64_w, i32_w]; rw [c26b0]) | skip)
                          have H' := Aside0.mk H
                          clear H
                          go_wp2_with (first | ((with_reducible refine gate_callee (f := 17) rfl ?_); refine goesL_ (some 53) rfl rfl Try.func17 (by kernel_rfl) rfl #[.slice Ao23 x8_2.length co23] rfl (by (try simp only [List.map_toArray, List.map_cons, List.map_nil]); first | done | rfl | (simp only [List.length_drop, List.length_take]; rfl)) ?_; (with_reducible refine (spec_Brier.calls k2 _ _ x8_2 t125 _ ?side1 ?side2 A25.out).mono ?_); (case side1 => repeat (first | exact (Kd.R_reads' HO_8.out).2.2 | (with_reducible refine Kd.C_alloc ?_ _) | (with_reducible refine Kd.C_drewN ?_ _) | (with_reducible refine Kd.C_drew ?_))); (case side2 => exact (Kd.R_reads' HO_8.out).2.1); rintro e w' ⟨rfl, ⟨nd, rfl⟩⟩; refine ⟨_, rfl, ?_⟩))
                          go_meet
                          case rel => exact ⟨_, (decide (t124 < 0)), (by first | rfl | (simp; done) | (simp [*]; done)), H', ⟨by have := HJ2.out; have := HK2.out; first | omega | exact Nat.le_refl _⟩, ⟨by (with_reducible repeat (first | apply Kd.R_alloc | apply Kd.R_drewN | apply Kd.R_drew)); exact HO_8.out⟩, ⟨by repeat (first | (with_reducible first | exact HB.out | apply below_alloc | apply pw_below_drewN | apply below_drew1) | exact HB.out)⟩⟩
                        · rw [if_neg c26] at H
                          have c26b0 : (t124 == t125) = false := beq_eq_false_iff_ne.mpr c26
                          have c26b1 : (t124 != t125) = true := bne_iff_ne.mpr c26
                          (first | rw [c26b0] | (simp only [i64_w, i32_w]; rw [c26b0]) | skip)
                          have H' := Aside0.mk H
                          clear H
                          go_wp2_with (first | ((with_reducible refine gate_callee (f := 17) rfl ?_); refine goesL_ (some 53) rfl rfl Try.func17 (by kernel_rfl) rfl #[.slice Ao23 x8_2.length co23] rfl (by (try simp only [List.map_toArray, List.map_cons, List.map_nil]); first | done | rfl | (simp only [List.length_drop, List.length_take]; rfl)) ?_; (with_reducible refine (spec_Brier.calls k2 _ _ x8_2 t125 _ ?side1 ?side2 A25.out).mono ?_); (case side1 => repeat (first | exact (Kd.R_reads' HO_8.out).2.2 | (with_reducible refine Kd.C_alloc ?_ _) | (with_reducible refine Kd.C_drewN ?_ _) | (with_reducible refine Kd.C_drew ?_))); (case side2 => exact (Kd.R_reads' HO_8.out).2.1); rintro e w' ⟨rfl, ⟨nd, rfl⟩⟩; refine ⟨_, rfl, ?_⟩))
                          go_meet
                          case rel => exact ⟨_, (true), (by first | rfl | (simp; done) | (simp [*]; done)), H', ⟨by have := HJ2.out; have := HK2.out; first | omega | exact Nat.le_refl _⟩, ⟨by (with_reducible repeat (first | apply Kd.R_alloc | apply Kd.R_drewN | apply Kd.R_drew)); exact HO_8.out⟩, ⟨by repeat (first | (with_reducible first | exact HB.out | apply below_alloc | apply pw_below_drewN | apply below_drew1) | exact HB.out)⟩⟩
                      case rest =>
                        clear HC22
                        try clear c1
                        try clear p1
                        try clear q1
                        try clear hx1
                        try clear c2
                        try clear p2
                        try clear c3
                        try clear c5
                        try clear p6
                        try clear c7
                        try clear c9
                        try clear c9b0
                        try clear c10
                        try clear c10b0
                        try clear c11
                        try clear c11b0
                        try clear c11b1
                        try clear p11
                        try clear q11
                        try clear hx11
                        try clear c12
                        try clear c12b0
                        try clear c12b1
                        try clear c15
                        try clear c16
                        try clear c17
                        try clear c18
                        try clear c18b0
                        try clear c19
                        try clear c26
                        try clear c26b0
                        try clear c26b1
                        try clear hx117_0
                        try clear p1
                        try clear p11
                        try clear p117
                        try clear p2
                        try clear p6
                        try clear q1
                        try clear q11
                        try clear q117
                        obtain ⟨kq, x58_21, rfl, HA, HJ21, HO_8, HB⟩ := hcut
                        cases kq with
                        | zero => exact absurd HA.out (by simp [laws_FnProper.j2])
                        | succ kj21 =>
                          have H := HA.out
                          clear HA
                          simp only [laws_FnProper.j2] at H
                          by_cases c27 : x58_21 = true
                          · subst c27
                            have H1 : (some false) = some r := by rw [if_pos rfl] at H; exact H
                            clear H
                            have H := H1
                            clear H1
                            obtain rfl := Option.some.inj H
                            go_wp2
                            go_ret
                            exact ⟨by first | rfl | (simp [errW_none, errW_some] <;> rfl) | (simp only [← hji8]; first | rfl | (simp [errW_none, errW_some] <;> rfl)) | (simp [*, errW_none, errW_some] <;> rfl), by repeat (first | (with_reducible first | exact HB.out | apply below_alloc | apply pw_below_drewN | apply below_drew1) | exact HB.out)⟩
                          · replace c27 := Bool.eq_false_iff.mpr c27
                            subst c27
                            have H1 : (laws_FnProper.l1 kj21 (rd y114 (ji8)) (wrap64 (Int.tdiv (wrap64 (100 * ((l1.length : Int) % (wrap64 ((rd y114 (ji8)) + 1))))) (rd y114 (ji8)))) x8_2 t124 0) = some r := by rw [if_neg (show ¬ (false = true) by decide)] at H; exact H
                            clear H
                            have H := H1
                            clear H1
                            have H' := Aside0.mk H
                            clear H
                            go_wp2
                            go_loopg [11] kj21 (fun kq v11 w' => ∃ (x8_4 : List (S27)) (x11_4 : Int), v11 = .int .i64 x11_4 ∧ Aside0 (laws_FnProper.l1 kq (rd y114 (ji8)) (wrap64 (Int.tdiv (wrap64 (100 * ((l1.length : Int) % (wrap64 ((rd y114 (ji8)) + 1))))) (rd y114 (ji8)))) x8_4 t124 x11_4 = some r) ∧ Aside0 (kq ≤ kj21) ∧ Aside0 (Kd.R k27 27 w' w.heap.size (fun _ => True) (.slice Ao23 x8_2.length co23) x8_4) ∧ Aside0 (Below w.heap.size w w'))
                            case atStart => exact ⟨(x8_2), (0), (by first | rfl | (simp; done) | (simp [*]; done)), H', ⟨Nat.le_refl _⟩, ⟨by (with_reducible repeat (first | apply Kd.R_alloc | apply Kd.R_drewN | apply Kd.R_drew)); exact HO_8.out⟩, ⟨by repeat (first | (with_reducible first | exact HB.out | apply below_alloc | apply pw_below_drewN | apply below_drew1) | exact HB.out)⟩⟩
                            case round =>
                              clear H'
                              try clear c1
                              try clear p1
                              try clear q1
                              try clear hx1
                              try clear c2
                              try clear p2
                              try clear c3
                              try clear c5
                              try clear p6
                              try clear c7
                              try clear c9
                              try clear c9b0
                              try clear c10
                              try clear c10b0
                              try clear c11
                              try clear c11b0
                              try clear c11b1
                              try clear p11
                              try clear q11
                              try clear hx11
                              try clear c12
                              try clear c12b0
                              try clear c12b1
                              try clear c15
                              try clear c16
                              try clear c17
                              try clear c18
                              try clear c18b0
                              try clear c19
                              try clear c26
                              try clear c26b0
                              try clear c26b1
                              try clear c27
                              try clear hx117_0
                              try clear p1
                              try clear p11
                              try clear p117
                              try clear p2
                              try clear p6
                              try clear q1
                              try clear q11
                              try clear q117
                              obtain ⟨x8_4, x11_4, rfl, HA, HK4, HO_8, HB⟩ := hrel
                              have hl8_4 := (Kd.R_reads' HO_8.out).1
                              rw [hl8_4] at HO_8
                              (try simp only [hl8_4])
                              cases gk with
                              | zero => exact absurd HA.out (by simp [laws_FnProper.l1])
                              | succ k4 =>
                                have H := HA.out
                                clear HA
                                simp only [laws_FnProper.l1] at H
                                by_cases c28 : x11_4 ≤ 100
                                · rw [if_pos c28] at H
                                  have c28b0 : decide (x11_4 ≤ 100) = true := decide_eq_true c28
                                  clear c28
                                  have H' := Aside0.mk H
                                  clear H
                                  go_wp2
                                  go_loopg [12] k4 (fun kq v12 w' => ∃ (x8_5 : List (S27)) (x12_5 : Int), v12 = .int .i64 x12_5 ∧ Aside0 (laws_FnProper.l2 kq (rd y114 (ji8)) (wrap64 (Int.tdiv (wrap64 (100 * ((l1.length : Int) % (wrap64 ((rd y114 (ji8)) + 1))))) (rd y114 (ji8)))) x8_5 t124 x11_4 x12_5 = some r) ∧ Aside0 (kq ≤ k4) ∧ Aside0 (Kd.R k27 27 w' w.heap.size (fun _ => True) (.slice Ao23 x8_4.length co23) x8_5) ∧ Aside0 (Below w.heap.size w w'))
                                  case atStart => exact ⟨(x8_4), (0), (by first | rfl | (simp; done) | (simp [*]; done)), H', ⟨Nat.le_refl _⟩, ⟨by (try simp only [hl8_4]); (with_reducible repeat (first | apply Kd.R_alloc | apply Kd.R_drewN | apply Kd.R_drew)); exact HO_8.out⟩, ⟨by repeat (first | (with_reducible first | exact HB.out | apply below_alloc | apply pw_below_drewN | apply below_drew1) | exact HB.out)⟩⟩
                                  case round =>
                                    clear H'
                                    try clear c1
                                    try clear p1
                                    try clear q1
                                    try clear hx1
                                    try clear c2
                                    try clear p2
                                    try clear c3
                                    try clear c5
                                    try clear p6
                                    try clear c7
                                    try clear c9
                                    try clear c9b0
                                    try clear c10
                                    try clear c10b0
                                    try clear c11
                                    try clear c11b0
                                    try clear c11b1
                                    try clear p11
                                    try clear q11
                                    try clear hx11
                                    try clear c12
                                    try clear c12b0
                                    try clear c12b1
                                    try clear c15
                                    try clear c16
                                    try clear c17
                                    try clear c18
                                    try clear c18b0
                                    try clear c19
                                    try clear c26
                                    try clear c26b0
                                    try clear c26b1
                                    try clear c27
                                    try clear c28
                                    try clear c28b0
                                    try clear hx117_0
                                    try clear p1
                                    try clear p11
                                    try clear p117
                                    try clear p2
                                    try clear p6
                                    try clear q1
                                    try clear q11
                                    try clear q117
                                    obtain ⟨x8_5, x12_5, rfl, HA, HK5, HO_8, HB⟩ := hrel
                                    have hl8_5 := (Kd.R_reads' HO_8.out).1
                                    rw [hl8_5] at HO_8
                                    (try simp only [hl8_5])
                                    cases gk with
                                    | zero => exact absurd HA.out (by simp [laws_FnProper.l2])
                                    | succ k5 =>
                                      have H := HA.out
                                      clear HA
                                      simp only [laws_FnProper.l2] at H
                                      by_cases c29 : x12_5 < (rd y114 (ji8))
                                      · rw [if_pos c29] at H
                                        have c29b0 : decide (x12_5 < (rd y114 (ji8))) = true := decide_eq_true c29
                                        clear c29
                                        by_cases c30 : 0 ≤ x12_5
                                        · rw [if_pos c30] at H
                                          have c30b0 : decide (0 ≤ x12_5) = true := decide_eq_true c30
                                          clear c30
                                          by_cases c31 : x12_5 < (x8_5.length : Int)
                                          · rw [if_pos c31] at H
                                            have c31b0 : decide (x12_5 < (x8_5.length : Int)) = true := decide_eq_true c31
                                            clear c31
                                            obtain ⟨y126, hy126⟩ : ∃ y_ : List (S27), y_ = (x8_5.set (x12_5 : Int).toNat (⟨x11_4, (rd_T27 x8_5 x12_5).f1⟩ : S27)) := ⟨_, rfl⟩
                                            replace H : (laws_FnProper.l2 k5 (rd y114 (ji8)) (wrap64 (Int.tdiv (wrap64 (100 * ((l1.length : Int) % (wrap64 ((rd y114 (ji8)) + 1))))) (rd y114 (ji8)))) y126 t124 x11_4 (wrap64 (x12_5 + 1))) = some r := by first | (rw [hy126]; with_reducible exact H) | (have H2_ := (Option.bind_some _ _).symm.trans H; rw [hy126]; with_reducible exact H2_) | (have H2_ := (Option.bind_some _ _).symm.trans H; with_reducible exact H2_) | with_reducible exact H | (rw [hy126]; exact H) | exact H
                                            have Ny126 := Aside0.mk hy126
                                            clear hy126
                                            have H' := Aside0.mk H
                                            clear H
                                            have p32 : 0 ≤ (x12_5 : Int) := of_decide_eq_true (by first | (with_reducible assumption) | assumption)
                                            have q32 : (x12_5 : Int) < ((x8_5.length : Int) : Int) := of_decide_eq_true (by first | (with_reducible assumption) | assumption)
                                            obtain ⟨go32, co32, eo32, gb32, gl32, cl32, HG32⟩ := Kd.R_form HO_8.out (by omega)
                                            (first | cases eo32 | (injection eo32 with ea_ en_ ec_; (first | subst ea_ | (injection ea_ with ea_; subst ea_)); subst ec_; clear en_))
                                            have GB32 := Aside0.mk gb32
                                            have GG32 := Aside0.mk HG32
                                            clear gb32 gl32 HG32
                                            obtain ⟨ce32, hcl32, hM32, hcc32, hfr32⟩ := Kd.R_elem HO_8.out z27 (x12_5 : Int) p32 q32
                                            obtain rfl := k27_openM hM32
                                            have hx32_0 : wr.cell? ⟨go32, (x12_5 : Int).toNat * 2, none⟩ = some (.int .i64 ((rd_T27 x8_5 x12_5).f0)) := hcc32 0 _ rfl
                                            have hx32_1 : wr.cell? ⟨go32, (x12_5 : Int).toNat * 2 + 1, none⟩ = some (.bool ((rd_T27 x8_5 x12_5).f1)) := hcc32 1 _ rfl
                                            have hf32_0 : wr.frozen? ⟨go32, (x12_5 : Int).toNat * 2, none⟩ = false := hfr32 0
                                            have hf32_1 : wr.frozen? ⟨go32, (x12_5 : Int).toNat * 2 + 1, none⟩ = false := hfr32 1
                                            clear hcl32 hcc32 hfr32 hM32
                                            replace p32 := eq_true p32
                                            replace q32 := eq_true q32
                                            have HX33 := Aside0.mk (show Kd.R k27 27 wr w.heap.size (fun _ => True) (.slice (some ⟨go32, 0, none⟩) x8_5.length co23) x8_5 from (by (with_reducible repeat (first | apply Kd.R_alloc | apply Kd.R_drewN | apply Kd.R_drew)); exact HO_8.out))
                                            obtain ⟨ce33, hcl33, hM33, hcc33, hfr33⟩ := Kd.R_elem HX33.out z27 (x12_5 : Int) (of_decide_eq_true (by first | (with_reducible assumption) | assumption)) (by have h_ : (x12_5 : Int) < ((x8_5.length : Int) : Int) := of_decide_eq_true (by first | (with_reducible assumption) | assumption); first | exact h_ | (have e_ := (Kd.R_reads' HO_8.out).1; omega) | simpa using h_)
                                            obtain rfl := k27_openM hM33
                                            have HP33 := Kd.R_seg HX33.out (x12_5 : Int) (of_decide_eq_true (by first | (with_reducible assumption) | assumption)) (by have h_ : (x12_5 : Int) < ((x8_5.length : Int) : Int) := of_decide_eq_true (by first | (with_reducible assumption) | assumption); first | exact h_ | (have e_ := (Kd.R_reads' HO_8.out).1; omega) | simpa using h_) (seg := [.int .i64 x11_4]) (j := 0) hcl33 hcc33 (show 1 ≤ 2 from by decide) (x' := (⟨x11_4, (rd_T27 x8_5 x12_5).f1⟩ : S27)) (k27_mkM _ _ _ (⟨x11_4, (rd_T27 x8_5 x12_5).f1⟩ : S27) ) (fun _ hk => hk)
                                            have hx33_0 := hcc33 0 _ rfl
                                            (try simp only [show (k27).sz = 2 from rfl, Nat.mul_one, Nat.add_zero] at hx33_0)
                                            have hf33_0 := hfr33 0
                                            (try simp only [show (k27).sz = 2 from rfl, Nat.mul_one, Nat.add_zero] at hf33_0)
                                            clear hcl33 hcc33 hfr33 hM33
                                            go_wp2_with (first | ((with_reducible refine gate_store (t := 2) (p := 72) rfl ?_); refine store_event (t := 2) (p := 72) (v := ?vo_w34) (w1 := (wr.setCell ⟨go32, (x12_5 : Int).toNat * 2, none⟩ (.int .i64 x11_4))) ?hg ?ho ?hn ?hr ?_; (case ho => rfl); (case hg => rfl); (case hn => rfl); (case hr => first | (go_simp; done) | (go_simp; rfl)); intro w34 hw; have hg : wr.grownBy w34 (some go32) := (by rw [hw]; exact HP33.2); have hp_ : Kd.R k27 27 w34 w.heap.size (fun _ => True) (.slice (some ⟨go32, 0, none⟩) x8_5.length co23) y126 := (by rw [hw, Ny126.out]; exact HP33.1); clear HP33; have n0_ := Aside0.mk (hp_); have n1_ := Aside0.mk ((by rw [hw]; exact below_set (HB.out) GB32.out : Below w.heap.size w w34)); clear HO_8; clear HB; have HO_8 := n0_; have HB := n1_; clear n0_ n1_; clear hg hw hp_))
                                            (try simp only [← hl8_5])
                                            go_roundg k5
                                            case measure => have := HJ2.out; have := HK2.out; have := HJ21.out; have := HK4.out; have := HK5.out; omega
                                            case rel => exact ⟨(y126), (wrap64 (x12_5 + 1)), (by first | rfl | (simp; done) | (simp [*]; done)), H', ⟨by have := HJ2.out; have := HK2.out; have := HJ21.out; have := HK4.out; have := HK5.out; omega⟩, ⟨by (try simp only [hl8_4]); (try simp only [hl8_5]); (with_reducible repeat (first | apply Kd.R_alloc | apply Kd.R_drewN | apply Kd.R_drew)); exact HO_8.out⟩, ⟨by repeat (first | (with_reducible first | exact HB.out | apply below_alloc | apply pw_below_drewN | apply below_drew1) | exact HB.out)⟩⟩
                                          · rw [if_neg c31] at H
                                            exact absurd H (by simp)
                                        · rw [if_neg c30] at H
                                          exact absurd H (by simp)
                                      · rw [if_neg c29] at H
                                        have c29b0 : decide (x12_5 < (rd y114 (ji8))) = false := decide_eq_false c29
                                        clear c29
                                        replace H := Option.bind_eq_some_iff.mp H
                                        obtain ⟨t127, A350, H⟩ := H
                                        replace H : (if t127 < t124 then (some false) else (if t127 = t124 then (if x11_4 = (wrap64 (Int.tdiv (wrap64 (100 * ((l1.length : Int) % (wrap64 ((rd y114 (ji8)) + 1))))) (rd y114 (ji8)))) then (laws_FnProper.l1 k5 (rd y114 (ji8)) (wrap64 (Int.tdiv (wrap64 (100 * ((l1.length : Int) % (wrap64 ((rd y114 (ji8)) + 1))))) (rd y114 (ji8)))) x8_5 t124 (wrap64 (x11_4 + 1))) else (some false)) else (laws_FnProper.l1 k5 (rd y114 (ji8)) (wrap64 (Int.tdiv (wrap64 (100 * ((l1.length : Int) % (wrap64 ((rd y114 (ji8)) + 1))))) (rd y114 (ji8)))) x8_5 t124 (wrap64 (x11_4 + 1))))) = some r := H
                                        have A35 := Aside0.mk A350
                                        clear A350
                                        by_cases c36 : t127 < t124
                                        · rw [if_pos c36] at H
                                          have c36b0 : decide (t127 < t124) = true := decide_eq_true c36
                                          clear c36
                                          obtain rfl := Option.some.inj H
                                          go_wp2_with (first | ((with_reducible refine gate_callee (f := 16) rfl ?_); refine goesL_ (some 74) rfl rfl Try.func16 (by kernel_rfl) rfl #[.slice Ao23 x8_5.length co23] rfl (by (try simp only [List.map_toArray, List.map_cons, List.map_nil]); first | done | rfl | (simp only [List.length_drop, List.length_take]; rfl)) ?_; (with_reducible refine (impl_Brier.calls k5 _ _ x8_5 t127 _ ?side1 ?side2 A35.out).mono ?_); (case side1 => repeat (first | exact (Kd.R_reads' HO_8.out).2.2 | (with_reducible refine Kd.C_alloc ?_ _) | (with_reducible refine Kd.C_drewN ?_ _) | (with_reducible refine Kd.C_drew ?_))); (case side2 => exact (Kd.R_reads' HO_8.out).2.1); rintro e w37 ⟨rfl, hb⟩; refine ⟨_, rfl, ?_⟩; have n0_ := Aside0.mk (Kd.R_below (by (with_reducible repeat (first | apply Kd.R_alloc | apply Kd.R_drewN | apply Kd.R_drew)); exact HO_8.out) hb); have n1_ := Aside0.mk (below_step (by repeat (first | (with_reducible first | exact HB.out | apply below_alloc | apply pw_below_drewN | apply below_drew1) | exact HB.out)) hb); clear HO_8; clear HB; have HO_8 := n0_; have HB := n1_; clear n0_ n1_; (try clear hb); (try clear hb2); (try clear hk); (try clear hi)))
                                          go_ret
                                          exact ⟨by first | rfl | (simp [errW_none, errW_some] <;> rfl) | (simp only [← hji8]; first | rfl | (simp [errW_none, errW_some] <;> rfl)) | (simp [*, errW_none, errW_some] <;> rfl), by repeat (first | (with_reducible first | exact HB.out | apply below_alloc | apply pw_below_drewN | apply below_drew1) | exact HB.out)⟩
                                        · rw [if_neg c36] at H
                                          have c36b0 : decide (t127 < t124) = false := decide_eq_false c36
                                          clear c36
                                          by_cases c38 : t127 = t124
                                          · rw [if_pos c38] at H
                                            have c38b0 : (t127 == t124) = true := beq_iff_eq.mpr c38
                                            have c38b1 : (t127 != t124) = false := bne_eq_false_iff_eq.mpr c38
                                            clear c38
                                            by_cases c39 : x11_4 = (wrap64 (Int.tdiv (wrap64 (100 * ((l1.length : Int) % (wrap64 ((rd y114 (ji8)) + 1))))) (rd y114 (ji8))))
                                            · rw [if_pos c39] at H
                                              have c39b0 : (x11_4 == (wrap64 (Int.tdiv (wrap64 (100 * ((l1.length : Int) % (wrap64 ((rd y114 (ji8)) + 1))))) (rd y114 (ji8))))) = true := beq_iff_eq.mpr c39
                                              have c39b1 : (x11_4 != (wrap64 (Int.tdiv (wrap64 (100 * ((l1.length : Int) % (wrap64 ((rd y114 (ji8)) + 1))))) (rd y114 (ji8))))) = false := bne_eq_false_iff_eq.mpr c39
                                              clear c39
                                              have H' := Aside0.mk H
                                              clear H
                                              go_wp2_with (first | ((with_reducible refine gate_callee (f := 16) rfl ?_); refine goesL_ (some 74) rfl rfl Try.func16 (by kernel_rfl) rfl #[.slice Ao23 x8_5.length co23] rfl (by (try simp only [List.map_toArray, List.map_cons, List.map_nil]); first | done | rfl | (simp only [List.length_drop, List.length_take]; rfl)) ?_; (with_reducible refine (impl_Brier.calls k5 _ _ x8_5 t127 _ ?side1 ?side2 A35.out).mono ?_); (case side1 => repeat (first | exact (Kd.R_reads' HO_8.out).2.2 | (with_reducible refine Kd.C_alloc ?_ _) | (with_reducible refine Kd.C_drewN ?_ _) | (with_reducible refine Kd.C_drew ?_))); (case side2 => exact (Kd.R_reads' HO_8.out).2.1); rintro e w40 ⟨rfl, hb⟩; refine ⟨_, rfl, ?_⟩; have n0_ := Aside0.mk (Kd.R_below (by (with_reducible repeat (first | apply Kd.R_alloc | apply Kd.R_drewN | apply Kd.R_drew)); exact HO_8.out) hb); have n1_ := Aside0.mk (below_step (by repeat (first | (with_reducible first | exact HB.out | apply below_alloc | apply pw_below_drewN | apply below_drew1) | exact HB.out)) hb); clear HO_8; clear HB; have HO_8 := n0_; have HB := n1_; clear n0_ n1_; (try clear hb); (try clear hb2); (try clear hk); (try clear hi)))
                                              (try simp only [← hl8_4, ← hl8_5])
                                              go_roundg k5
                                              case measure => have := HJ2.out; have := HK2.out; have := HJ21.out; have := HK4.out; have := HK5.out; omega
                                              case rel => exact ⟨(x8_5), (wrap64 (x11_4 + 1)), (by first | rfl | (simp; done) | (simp [*]; done)), H', ⟨by have := HJ2.out; have := HK2.out; have := HJ21.out; have := HK4.out; have := HK5.out; omega⟩, ⟨by (try simp only [hl8_4]); (try simp only [hl8_5]); (with_reducible repeat (first | apply Kd.R_alloc | apply Kd.R_drewN | apply Kd.R_drew)); exact HO_8.out⟩, ⟨by repeat (first | (with_reducible first | exact HB.out | apply below_alloc | apply pw_below_drewN | apply below_drew1) | exact HB.out)⟩⟩
                                            · rw [if_neg c39] at H
                                              have c39b0 : (x11_4 == (wrap64 (Int.tdiv (wrap64 (100 * ((l1.length : Int) % (wrap64 ((rd y114 (ji8)) + 1))))) (rd y114 (ji8))))) = false := beq_eq_false_iff_ne.mpr c39
                                              have c39b1 : (x11_4 != (wrap64 (Int.tdiv (wrap64 (100 * ((l1.length : Int) % (wrap64 ((rd y114 (ji8)) + 1))))) (rd y114 (ji8))))) = true := bne_iff_ne.mpr c39
                                              obtain rfl := Option.some.inj H
                                              go_wp2_with (first | ((with_reducible refine gate_callee (f := 16) rfl ?_); refine goesL_ (some 74) rfl rfl Try.func16 (by kernel_rfl) rfl #[.slice Ao23 x8_5.length co23] rfl (by (try simp only [List.map_toArray, List.map_cons, List.map_nil]); first | done | rfl | (simp only [List.length_drop, List.length_take]; rfl)) ?_; (with_reducible refine (impl_Brier.calls k5 _ _ x8_5 t127 _ ?side1 ?side2 A35.out).mono ?_); (case side1 => repeat (first | exact (Kd.R_reads' HO_8.out).2.2 | (with_reducible refine Kd.C_alloc ?_ _) | (with_reducible refine Kd.C_drewN ?_ _) | (with_reducible refine Kd.C_drew ?_))); (case side2 => exact (Kd.R_reads' HO_8.out).2.1); rintro e w41 ⟨rfl, hb⟩; refine ⟨_, rfl, ?_⟩; have n0_ := Aside0.mk (Kd.R_below (by (with_reducible repeat (first | apply Kd.R_alloc | apply Kd.R_drewN | apply Kd.R_drew)); exact HO_8.out) hb); have n1_ := Aside0.mk (below_step (by repeat (first | (with_reducible first | exact HB.out | apply below_alloc | apply pw_below_drewN | apply below_drew1) | exact HB.out)) hb); clear HO_8; clear HB; have HO_8 := n0_; have HB := n1_; clear n0_ n1_; (try clear hb); (try clear hb2); (try clear hk); (try clear hi)))
                                              go_ret
                                              exact ⟨by first | rfl | (simp [errW_none, errW_some] <;> rfl) | (simp only [← hji8]; first | rfl | (simp [errW_none, errW_some] <;> rfl)) | (simp [*, errW_none, errW_some] <;> rfl), by repeat (first | (with_reducible first | exact HB.out | apply below_alloc | apply pw_below_drewN | apply below_drew1) | exact HB.out)⟩
                                          · rw [if_neg c38] at H
                                            have c38b0 : (t127 == t124) = false := beq_eq_false_iff_ne.mpr c38
                                            have c38b1 : (t127 != t124) = true := bne_iff_ne.mpr c38
                                            have H' := Aside0.mk H
                                            clear H
                                            go_wp2_with (first | ((with_reducible refine gate_callee (f := 16) rfl ?_); refine goesL_ (some 74) rfl rfl Try.func16 (by kernel_rfl) rfl #[.slice Ao23 x8_5.length co23] rfl (by (try simp only [List.map_toArray, List.map_cons, List.map_nil]); first | done | rfl | (simp only [List.length_drop, List.length_take]; rfl)) ?_; (with_reducible refine (impl_Brier.calls k5 _ _ x8_5 t127 _ ?side1 ?side2 A35.out).mono ?_); (case side1 => repeat (first | exact (Kd.R_reads' HO_8.out).2.2 | (with_reducible refine Kd.C_alloc ?_ _) | (with_reducible refine Kd.C_drewN ?_ _) | (with_reducible refine Kd.C_drew ?_))); (case side2 => exact (Kd.R_reads' HO_8.out).2.1); rintro e w42 ⟨rfl, hb⟩; refine ⟨_, rfl, ?_⟩; have n0_ := Aside0.mk (Kd.R_below (by (with_reducible repeat (first | apply Kd.R_alloc | apply Kd.R_drewN | apply Kd.R_drew)); exact HO_8.out) hb); have n1_ := Aside0.mk (below_step (by repeat (first | (with_reducible first | exact HB.out | apply below_alloc | apply pw_below_drewN | apply below_drew1) | exact HB.out)) hb); clear HO_8; clear HB; have HO_8 := n0_; have HB := n1_; clear n0_ n1_; (try clear hb); (try clear hb2); (try clear hk); (try clear hi)))
                                            (try simp only [← hl8_4, ← hl8_5])
                                            go_roundg k5
                                            case measure => have := HJ2.out; have := HK2.out; have := HJ21.out; have := HK4.out; have := HK5.out; omega
                                            case rel => exact ⟨(x8_5), (wrap64 (x11_4 + 1)), (by first | rfl | (simp; done) | (simp [*]; done)), H', ⟨by have := HJ2.out; have := HK2.out; have := HJ21.out; have := HK4.out; have := HK5.out; omega⟩, ⟨by (try simp only [hl8_4]); (try simp only [hl8_5]); (with_reducible repeat (first | apply Kd.R_alloc | apply Kd.R_drewN | apply Kd.R_drew)); exact HO_8.out⟩, ⟨by repeat (first | (with_reducible first | exact HB.out | apply below_alloc | apply pw_below_drewN | apply below_drew1) | exact HB.out)⟩⟩
                                · rw [if_neg c28] at H
                                  have c28b0 : decide (x11_4 ≤ 100) = false := decide_eq_false c28
                                  clear c28
                                  obtain rfl := Option.some.inj H
                                  go_wp2
                                  go_ret
                                  exact ⟨by first | rfl | (simp [errW_none, errW_some] <;> rfl) | (simp only [← hji8]; first | rfl | (simp [errW_none, errW_some] <;> rfl)) | (simp [*, errW_none, errW_some] <;> rfl), by repeat (first | (with_reducible first | exact HB.out | apply below_alloc | apply pw_below_drewN | apply below_drew1) | exact HB.out)⟩
          · rw [if_neg c10] at H
            exact absurd H (by simp)
        · rw [if_neg c9] at H
          exact absurd H (by simp)

/-- THE ONE PURE STATEMENT of laws_FnProper: yours. -/
def laws_FnProper.Pure : Prop := ∀ (l0 : List Int) (l1 : List Int), l0.length ≤ maxLen → l0.length * 1 ≤ 140737488351232 → (∀ x ∈ l0, (Lit.int .u8 x).wf = true) → l1.length ≤ maxLen → l1.length * 1 ≤ 140737488351232 → (∀ x ∈ l1, (Lit.int .u8 x).wf = true) → ∃ k, laws_FnProper.f k l0 l1 = some true
theorem laws_FnProper.walk (P : laws_FnProper.Pure) (a0 : Option Addr) (len0 cap0 : Nat) (z0 : List Int) (a1 : Option Addr) (len1 cap1 : Nat) (z1 : List Int) (w : World) (w0 : (a0 = none ∧ len0 = 0 ∧ cap0 = 0 ∧ z0 = []) ∨ ∃ x, a0 = some x ∧ len0 ≤ cap0 ∧ cap0 ≤ maxLen ∧ z0.length = cap0 ∧ (∀ i, i < z0.length → w.cell? (x.add i) = some (.int .u8 (z0.getD i 0))) ∧ ∀ n ∈ z0, (Lit.int .u8 n).wf = true) (y0 : len0 * 1 ≤ 140737488351232) (w1 : (a1 = none ∧ len1 = 0 ∧ cap1 = 0 ∧ z1 = []) ∨ ∃ x, a1 = some x ∧ len1 ≤ cap1 ∧ cap1 ≤ maxLen ∧ z1.length = cap1 ∧ (∀ i, i < z1.length → w.cell? (x.add i) = some (.int .u8 (z1.getD i 0))) ∧ ∀ n ∈ z1, (Lit.int .u8 n).wf = true) (y1 : len1 * 1 ≤ 140737488351232) :
    Calls Try.prog 3 #[.slice a0 len0 cap0, .slice a1 len1 cap1] w fun e w' => e = .returned (.bool true) ∧ Below w.heap.size w w' := by
  obtain ⟨l0, rfl, hr0, hm0, hw0, hc0⟩ := ReadsInt.ofRowC w0
  obtain ⟨l1, rfl, hr1, hm1, hw1, hc1⟩ := ReadsInt.ofRowC w1
  obtain ⟨k, h⟩ := P l0 l1 hm0 y0 hw0 hm1 y1 hw1
  refine (laws_FnProper.calls k _ _ l0 _ _ l1 true w (Kd.C_of_reads (d := (0 : Int)) (h1 := fun _ => rfl) hr0) hc0 (Kd.C_of_reads (d := (0 : Int)) (h1 := fun _ => rfl) hr1) hc1 h).mono ?_
  rintro e w' ⟨rfl, hd⟩
  exact ⟨rfl, hd⟩

end Go.Proofs.Ytfpddfhndifnoaa.PFnProper
