/-
  Contracts of functions that the law FnOverlaps reaches, as the kit's print tool wrote them, with rows that did not compile taken out or proved anew.
  Conditions: none.
-/
import Derived.Test.YtfpddfhndifnoaaPFnOverlapsx0
import Derived.Test.YtfpddfhndifnoaaPFnOverlapsx1
import Derived.Test.YtfpddfhndifnoaaPFnOverlapsx2
import Derived.Test.YtfpddfhndifnoaaQFnOverlapsx3
namespace Go.Proofs.Ytfpddfhndifnoaa.PFnOverlaps
open Go.RowKit Go.Proofs.YtfpddfhndifnoaaW.PrintWords Go.Proofs.YtfpddfhndifnoaaW.PrintLast Go.Proofs.YtfpddfhndifnoaaW.PrintMore
attribute [local go_sem] max2_int min2_int max_two min_two max_three min_three max_four min_four   -- for this text's walks alone
set_option linter.unusedVariables false
set_option linter.unusedSimpArgs false

attribute [local go_sem high] eqA37
/-! ### laws_FnOverlaps: function 12 -/
mutual
def laws_FnOverlaps.j0 : Nat → Bool → Bool → Int → Int → Int → Int → Int → Int → Option (Bool)
  | 0, _, _, _, _, _, _, _, _ => none
  | k + 1, x8, x52, x186000, x186001, x187000, x187001, x195000, x195001 => if x52 = true then (some false) else (if x8 = true then (laws_FnOverlaps.l0 k (([x186000, x186001, x187000, x187001] : List Int)) 0 x186000 x186001 x187000 x187001 x195000 x195001) else (some (x195000 == 0 && (x195001 == 0))))
def laws_FnOverlaps.l0 : Nat → List Int → Int → Int → Int → Int → Int → Int → Int → Option (Bool)
  | 0, _, _, _, _, _, _, _, _ => none
  | k + 1, x11, x12, x186000, x186001, x187000, x187001, x195000, x195001 => if x12 < (x11.length : Int) then (if 0 ≤ x12 then (laws_FnOverlaps.l1 k x11 x12 (wrap64 ((rd x11 x12) - 1)) x186000 x186001 x187000 x187001 x195000 x195001) else (none)) else (some true)
def laws_FnOverlaps.l1 : Nat → List Int → Int → Int → Int → Int → Int → Int → Int → Int → Option (Bool)
  | 0, _, _, _, _, _, _, _, _, _ => none
  | k + 1, x11, x12, x13, x186000, x186001, x187000, x187001, x195000, x195001 => if 0 ≤ x12 then (if x12 < (x11.length : Int) then (if x13 ≤ (rd x11 x12) then (if x186000 ≤ x13 then (if x13 < x186001 then (if x187000 ≤ x13 then (if x195000 ≤ x13 then (if ((decide (x13 < x187001)) != (decide (x13 < x195001))) = true then (some false) else (laws_FnOverlaps.l1 k x11 x12 (wrap64 (x13 + 1)) x186000 x186001 x187000 x187001 x195000 x195001)) else (if ((decide (x13 < x187001)) != false) = true then (some false) else (laws_FnOverlaps.l1 k x11 x12 (wrap64 (x13 + 1)) x186000 x186001 x187000 x187001 x195000 x195001))) else (if x195000 ≤ x13 then (if (false != (decide (x13 < x195001))) = true then (some false) else (laws_FnOverlaps.l1 k x11 x12 (wrap64 (x13 + 1)) x186000 x186001 x187000 x187001 x195000 x195001)) else (if (false != false) = true then (some false) else (laws_FnOverlaps.l1 k x11 x12 (wrap64 (x13 + 1)) x186000 x186001 x187000 x187001 x195000 x195001)))) else (if x195000 ≤ x13 then (if (false != (decide (x13 < x195001))) = true then (some false) else (laws_FnOverlaps.l1 k x11 x12 (wrap64 (x13 + 1)) x186000 x186001 x187000 x187001 x195000 x195001)) else (if (false != false) = true then (some false) else (laws_FnOverlaps.l1 k x11 x12 (wrap64 (x13 + 1)) x186000 x186001 x187000 x187001 x195000 x195001)))) else (if x195000 ≤ x13 then (if (false != (decide (x13 < x195001))) = true then (some false) else (laws_FnOverlaps.l1 k x11 x12 (wrap64 (x13 + 1)) x186000 x186001 x187000 x187001 x195000 x195001)) else (if (false != false) = true then (some false) else (laws_FnOverlaps.l1 k x11 x12 (wrap64 (x13 + 1)) x186000 x186001 x187000 x187001 x195000 x195001)))) else (laws_FnOverlaps.l0 k x11 (wrap64 (x12 + 1)) x186000 x186001 x187000 x187001 x195000 x195001)) else (none)) else (none)
end
def laws_FnOverlaps.f (k : Nat) (l0 : List Int) : Option (Bool) := (laws_big.f l0).bind fun t180 => (if t180 = true then (some true) else ((spec_DrawOverlap.f k l0).bind fun bt181 => ((spec_Overlap.f bt181.1 bt181.2.1 bt181.2.2.1 bt181.2.2.2).bind fun bt187 => ((impl_Overlap.f bt181.1 bt181.2.1 bt181.2.2.1 bt181.2.2.2).bind fun bt191 => ((impl_Overlap.f bt181.2.2.1 bt181.2.2.2 bt181.1 bt181.2.1).bind fun bt195 => (if (bt191.2.2 != bt187.2.2) = true then (laws_FnOverlaps.j0 k bt191.2.2 true bt181.1 bt181.2.1 bt181.2.2.1 bt181.2.2.2 bt191.1 bt191.2.1) else (if (bt195.2.2 != bt191.2.2) = true then (laws_FnOverlaps.j0 k bt191.2.2 true bt181.1 bt181.2.1 bt181.2.2.1 bt181.2.2.2 bt191.1 bt191.2.1) else (laws_FnOverlaps.j0 k bt191.2.2 (!(bt195.1 == bt191.1) || (!(bt195.2.1 == bt191.2.1))) bt181.1 bt181.2.1 bt181.2.2.1 bt181.2.2.2 bt191.1 bt191.2.1))))))))
theorem laws_FnOverlaps.mono_l : ∀ k, (∀ y0 y1 y2 y3 y4 y5 y6 y7, LeO (laws_FnOverlaps.j0 k y0 y1 y2 y3 y4 y5 y6 y7) (laws_FnOverlaps.j0 (k + 1) y0 y1 y2 y3 y4 y5 y6 y7)) ∧ (∀ y0 y1 y2 y3 y4 y5 y6 y7, LeO (laws_FnOverlaps.l0 k y0 y1 y2 y3 y4 y5 y6 y7) (laws_FnOverlaps.l0 (k + 1) y0 y1 y2 y3 y4 y5 y6 y7)) ∧ (∀ y0 y1 y2 y3 y4 y5 y6 y7 y8, LeO (laws_FnOverlaps.l1 k y0 y1 y2 y3 y4 y5 y6 y7 y8) (laws_FnOverlaps.l1 (k + 1) y0 y1 y2 y3 y4 y5 y6 y7 y8))
  | 0 => ⟨fun _ _ _ _ _ _ _ _ r h => by simp [laws_FnOverlaps.j0] at h, fun _ _ _ _ _ _ _ _ r h => by simp [laws_FnOverlaps.l0] at h, fun _ _ _ _ _ _ _ _ _ r h => by simp [laws_FnOverlaps.l1] at h⟩
  | k + 1 => by
    obtain ⟨ih0, ih1, ih2⟩ := laws_FnOverlaps.mono_l k
    refine ⟨?_, ?_, ?_⟩
    · intro y0 y1 y2 y3 y4 y5 y6 y7
      unfold laws_FnOverlaps.j0
      repeat' first
      | (with_reducible exact ih0 _ _ _ _ _ _ _ _)
      | (with_reducible exact ih1 _ _ _ _ _ _ _ _)
      | (with_reducible exact ih2 _ _ _ _ _ _ _ _ _)
      | (with_reducible exact spec_DrawOverlap.mono _ _)
      | (with_reducible exact LeO.refl _)
      | (with_reducible exact LeO.none _)
      | (with_reducible refine LeO.ite ?_ ?_)
      | (with_reducible refine LeO.bind ?_ (fun _ => ?_))
      | exact ih0 _ _ _ _ _ _ _ _
      | exact ih1 _ _ _ _ _ _ _ _
      | exact ih2 _ _ _ _ _ _ _ _ _
      | exact spec_DrawOverlap.mono _ _
      | exact LeO.none _
      | refine LeO.ite ?_ ?_
      | refine LeO.bind ?_ (fun _ => ?_)
    · intro y0 y1 y2 y3 y4 y5 y6 y7
      unfold laws_FnOverlaps.l0
      repeat' first
      | (with_reducible exact ih0 _ _ _ _ _ _ _ _)
      | (with_reducible exact ih1 _ _ _ _ _ _ _ _)
      | (with_reducible exact ih2 _ _ _ _ _ _ _ _ _)
      | (with_reducible exact spec_DrawOverlap.mono _ _)
      | (with_reducible exact LeO.refl _)
      | (with_reducible exact LeO.none _)
      | (with_reducible refine LeO.ite ?_ ?_)
      | (with_reducible refine LeO.bind ?_ (fun _ => ?_))
      | exact ih0 _ _ _ _ _ _ _ _
      | exact ih1 _ _ _ _ _ _ _ _
      | exact ih2 _ _ _ _ _ _ _ _ _
      | exact spec_DrawOverlap.mono _ _
      | exact LeO.none _
      | refine LeO.ite ?_ ?_
      | refine LeO.bind ?_ (fun _ => ?_)
    · intro y0 y1 y2 y3 y4 y5 y6 y7 y8
      unfold laws_FnOverlaps.l1
      repeat' first
      | (with_reducible exact ih0 _ _ _ _ _ _ _ _)
      | (with_reducible exact ih1 _ _ _ _ _ _ _ _)
      | (with_reducible exact ih2 _ _ _ _ _ _ _ _ _)
      | (with_reducible exact spec_DrawOverlap.mono _ _)
      | (with_reducible exact LeO.refl _)
      | (with_reducible exact LeO.none _)
      | (with_reducible refine LeO.ite ?_ ?_)
      | (with_reducible refine LeO.bind ?_ (fun _ => ?_))
      | exact ih0 _ _ _ _ _ _ _ _
      | exact ih1 _ _ _ _ _ _ _ _
      | exact ih2 _ _ _ _ _ _ _ _ _
      | exact spec_DrawOverlap.mono _ _
      | exact LeO.none _
      | refine LeO.ite ?_ ?_
      | refine LeO.bind ?_ (fun _ => ?_)
theorem laws_FnOverlaps.mono : ∀ a0 k, LeO (laws_FnOverlaps.f k a0) (laws_FnOverlaps.f (k + 1) a0) := by
  intro a0 k
  obtain ⟨ih0, ih1, ih2⟩ := laws_FnOverlaps.mono_l k
  unfold laws_FnOverlaps.f
  repeat' first
      | (with_reducible exact ih0 _ _ _ _ _ _ _ _)
      | (with_reducible exact ih1 _ _ _ _ _ _ _ _)
      | (with_reducible exact ih2 _ _ _ _ _ _ _ _ _)
      | (with_reducible exact spec_DrawOverlap.mono _ _)
      | (with_reducible exact LeO.refl _)
      | (with_reducible exact LeO.none _)
      | (with_reducible refine LeO.ite ?_ ?_)
      | (with_reducible refine LeO.bind ?_ (fun _ => ?_))
      | exact ih0 _ _ _ _ _ _ _ _
      | exact ih1 _ _ _ _ _ _ _ _
      | exact ih2 _ _ _ _ _ _ _ _ _
      | exact spec_DrawOverlap.mono _ _
      | exact LeO.none _
      | refine LeO.ite ?_ ?_
      | refine LeO.bind ?_ (fun _ => ?_)
set_option maxHeartbeats 8000000 in
set_option maxRecDepth 100000 in
theorem laws_FnOverlaps.calls (k : Nat) (A0 : Option Addr) (c0 : Nat) (l0 : List Int) (r : Bool) (w : World) (hr0 : Kd.C (Kd.int .u8) w A0 l0.length l0) (hc0 : l0.length ≤ c0) (h : laws_FnOverlaps.f k l0 = some r) :
    Calls Try.prog 12 #[.slice A0 l0.length c0] w fun e w' => e = .returned (.bool r) ∧ Below w.heap.size w w' := by
  have hu37 := Try.underlying37
  have HR0 := Aside0.mk hr0
  have HC0 := Aside0.mk hc0
  clear hr0 hc0
  have HB := Aside0.mk (Below.refl w.heap.size w)
  have H : ((laws_big.f l0).bind fun t180 => (if t180 = true then (some true) else ((spec_DrawOverlap.f k l0).bind fun bt181 => ((spec_Overlap.f bt181.1 bt181.2.1 bt181.2.2.1 bt181.2.2.2).bind fun bt187 => ((impl_Overlap.f bt181.1 bt181.2.1 bt181.2.2.1 bt181.2.2.2).bind fun bt191 => ((impl_Overlap.f bt181.2.2.1 bt181.2.2.2 bt181.1 bt181.2.1).bind fun bt195 => (if (bt191.2.2 != bt187.2.2) = true then (laws_FnOverlaps.j0 k bt191.2.2 true bt181.1 bt181.2.1 bt181.2.2.1 bt181.2.2.2 bt191.1 bt191.2.1) else (if (bt195.2.2 != bt191.2.2) = true then (laws_FnOverlaps.j0 k bt191.2.2 true bt181.1 bt181.2.1 bt181.2.2.1 bt181.2.2.2 bt191.1 bt191.2.1) else (laws_FnOverlaps.j0 k bt191.2.2 (!(bt195.1 == bt191.1) || (!(bt195.2.1 == bt191.2.1))) bt181.1 bt181.2.1 bt181.2.2.1 bt181.2.2.2 bt191.1 bt191.2.1))))))))) = some r := h
  clear h
  replace H := Option.bind_eq_some_iff.mp H
  obtain ⟨t180, A20, H⟩ := H
  replace H : (if t180 = true then (some true) else ((spec_DrawOverlap.f k l0).bind fun bt181 => ((spec_Overlap.f bt181.1 bt181.2.1 bt181.2.2.1 bt181.2.2.2).bind fun bt187 => ((impl_Overlap.f bt181.1 bt181.2.1 bt181.2.2.1 bt181.2.2.2).bind fun bt191 => ((impl_Overlap.f bt181.2.2.1 bt181.2.2.2 bt181.1 bt181.2.1).bind fun bt195 => (if (bt191.2.2 != bt187.2.2) = true then (laws_FnOverlaps.j0 k bt191.2.2 true bt181.1 bt181.2.1 bt181.2.2.1 bt181.2.2.2 bt191.1 bt191.2.1) else (if (bt195.2.2 != bt191.2.2) = true then (laws_FnOverlaps.j0 k bt191.2.2 true bt181.1 bt181.2.1 bt181.2.2.1 bt181.2.2.2 bt191.1 bt191.2.1) else (laws_FnOverlaps.j0 k bt191.2.2 (!(bt195.1 == bt191.1) || (!(bt195.2.1 == bt191.2.1))) bt181.1 bt181.2.1 bt181.2.2.1 bt181.2.2.2 bt191.1 bt191.2.1)))))))) = some r := H
  have A2 := Aside0.mk A20
  clear A20
  by_cases c3 : t180 = true
  · subst c3
    have H1 : (some true) = some r := by rw [if_pos rfl] at H; exact H
    clear H
    have H := H1
    clear H1
    obtain rfl := Option.some.inj H
    go_enter Try.func12, Try.ntmps12
    go_wp2_with (first | ((with_reducible refine gate_callee (f := 15) rfl ?_); refine goesL_ (some 16) rfl rfl Try.func15 (by kernel_rfl) rfl #[.slice A0 l0.length c0] rfl (by (try simp only [List.map_toArray, List.map_cons, List.map_nil]); first | done | rfl | (simp only [List.length_drop, List.length_take]; rfl)) ?_; (with_reducible refine (laws_big.calls _ _ l0 true _ ?side1 ?side2 A2.out).mono ?_); (case side1 => repeat (first | exact HR0.out | (with_reducible refine Kd.C_alloc ?_ _) | (with_reducible refine Kd.C_drewN ?_ _) | (with_reducible refine Kd.C_drew ?_))); (case side2 => exact HC0.out); rintro e w' ⟨rfl, ⟨nd, rfl⟩⟩; refine ⟨_, rfl, ?_⟩))
    go_ret
    exact ⟨by first | rfl | (simp [errW_none, errW_some] <;> rfl) | (simp [*, errW_none, errW_some] <;> rfl), by repeat (first | (with_reducible first | exact HB.out | apply below_alloc | apply pw_below_drewN | apply below_drew1) | exact HB.out)⟩
  · replace c3 := Bool.eq_false_iff.mpr c3
    subst c3
    have H1 : ((spec_DrawOverlap.f k l0).bind fun bt181 => ((spec_Overlap.f bt181.1 bt181.2.1 bt181.2.2.1 bt181.2.2.2).bind fun bt187 => ((impl_Overlap.f bt181.1 bt181.2.1 bt181.2.2.1 bt181.2.2.2).bind fun bt191 => ((impl_Overlap.f bt181.2.2.1 bt181.2.2.2 bt181.1 bt181.2.1).bind fun bt195 => (if (bt191.2.2 != bt187.2.2) = true then (laws_FnOverlaps.j0 k bt191.2.2 true bt181.1 bt181.2.1 bt181.2.2.1 bt181.2.2.2 bt191.1 bt191.2.1) else (if (bt195.2.2 != bt191.2.2) = true then (laws_FnOverlaps.j0 k bt191.2.2 true bt181.1 bt181.2.1 bt181.2.2.1 bt181.2.2.2 bt191.1 bt191.2.1) else (laws_FnOverlaps.j0 k bt191.2.2 (!(bt195.1 == bt191.1) || (!(bt195.2.1 == bt191.2.1))) bt181.1 bt181.2.1 bt181.2.2.1 bt181.2.2.2 bt191.1 bt191.2.1))))))) = some r := by rw [if_neg (show ¬ (false = true) by decide)] at H; exact H
    clear H
    have H := H1
    clear H1
    replace H := Option.bind_eq_some_iff.mp H
    obtain ⟨⟨t181, t182, t183, t184⟩, A40, H⟩ := H
    replace H : ((spec_Overlap.f t181 t182 t183 t184).bind fun bt187 => ((impl_Overlap.f t181 t182 t183 t184).bind fun bt191 => ((impl_Overlap.f t183 t184 t181 t182).bind fun bt195 => (if (bt191.2.2 != bt187.2.2) = true then (laws_FnOverlaps.j0 k bt191.2.2 true t181 t182 t183 t184 bt191.1 bt191.2.1) else (if (bt195.2.2 != bt191.2.2) = true then (laws_FnOverlaps.j0 k bt191.2.2 true t181 t182 t183 t184 bt191.1 bt191.2.1) else (laws_FnOverlaps.j0 k bt191.2.2 (!(bt195.1 == bt191.1) || (!(bt195.2.1 == bt191.2.1))) t181 t182 t183 t184 bt191.1 bt191.2.1)))))) = some r := H
    have A4 := Aside0.mk A40
    clear A40
    replace H := Option.bind_eq_some_iff.mp H
    obtain ⟨⟨t187, t188, t189⟩, A50, H⟩ := H
    replace H : ((impl_Overlap.f t181 t182 t183 t184).bind fun bt191 => ((impl_Overlap.f t183 t184 t181 t182).bind fun bt195 => (if (bt191.2.2 != t189) = true then (laws_FnOverlaps.j0 k bt191.2.2 true t181 t182 t183 t184 bt191.1 bt191.2.1) else (if (bt195.2.2 != bt191.2.2) = true then (laws_FnOverlaps.j0 k bt191.2.2 true t181 t182 t183 t184 bt191.1 bt191.2.1) else (laws_FnOverlaps.j0 k bt191.2.2 (!(bt195.1 == bt191.1) || (!(bt195.2.1 == bt191.2.1))) t181 t182 t183 t184 bt191.1 bt191.2.1))))) = some r := H
    have A5 := Aside0.mk A50
    clear A50
    replace H := Option.bind_eq_some_iff.mp H
    obtain ⟨⟨t191, t192, t193⟩, A60, H⟩ := H
    replace H : ((impl_Overlap.f t183 t184 t181 t182).bind fun bt195 => (if (t193 != t189) = true then (laws_FnOverlaps.j0 k t193 true t181 t182 t183 t184 t191 t192) else (if (bt195.2.2 != t193) = true then (laws_FnOverlaps.j0 k t193 true t181 t182 t183 t184 t191 t192) else (laws_FnOverlaps.j0 k t193 (!(bt195.1 == t191) || (!(bt195.2.1 == t192))) t181 t182 t183 t184 t191 t192)))) = some r := H
    have A6 := Aside0.mk A60
    clear A60
    replace H := Option.bind_eq_some_iff.mp H
    obtain ⟨⟨t195, t196, t197⟩, A70, H⟩ := H
    replace H : (if (t193 != t189) = true then (laws_FnOverlaps.j0 k t193 true t181 t182 t183 t184 t191 t192) else (if (t197 != t193) = true then (laws_FnOverlaps.j0 k t193 true t181 t182 t183 t184 t191 t192) else (laws_FnOverlaps.j0 k t193 (!(t195 == t191) || (!(t196 == t192))) t181 t182 t183 t184 t191 t192))) = some r := H
    have A7 := Aside0.mk A70
    clear A70
    have HC8 := Aside0.mk H
    clear H
    go_enter Try.func12, Try.ntmps12
    go_upto_region 7 with (first | ((with_reducible refine gate_callee (f := 15) rfl ?_); refine goesL_ (some 16) rfl rfl Try.func15 (by kernel_rfl) rfl #[.slice A0 l0.length c0] rfl (by (try simp only [List.map_toArray, List.map_cons, List.map_nil]); first | done | rfl | (simp only [List.length_drop, List.length_take]; rfl)) ?_; (with_reducible refine (laws_big.calls _ _ l0 false _ ?side1 ?side2 A2.out).mono ?_); (case side1 => repeat (first | exact HR0.out | (with_reducible refine Kd.C_alloc ?_ _) | (with_reducible refine Kd.C_drewN ?_ _) | (with_reducible refine Kd.C_drew ?_))); (case side2 => exact HC0.out); rintro e w' ⟨rfl, ⟨nd, rfl⟩⟩; refine ⟨_, rfl, ?_⟩) | ((with_reducible refine gate_callee (f := 46) rfl ?_); refine goesL_ (some 19) rfl rfl Try.func46 (by kernel_rfl) rfl #[.slice A0 l0.length c0] rfl (by (try simp only [List.map_toArray, List.map_cons, List.map_nil]); first | done | rfl | (simp only [List.length_drop, List.length_take]; rfl)) ?_; (with_reducible refine (spec_DrawOverlap.calls k _ _ l0 t181 t182 t183 t184 _ ?side1 ?side2 A4.out).mono ?_); (case side1 => repeat (first | exact HR0.out | (with_reducible refine Kd.C_alloc ?_ _) | (with_reducible refine Kd.C_drewN ?_ _) | (with_reducible refine Kd.C_drew ?_))); (case side2 => exact HC0.out); rintro e w9 ⟨rfl, hb⟩; refine ⟨_, rfl, ?_⟩; have n0_ := Aside0.mk (below_step (by repeat (first | (with_reducible first | exact HB.out | apply below_alloc | apply pw_below_drewN | apply below_drew1) | exact HB.out)) hb); clear HB; have HB := n0_; clear n0_; (try clear hb); (try clear hb2); (try clear hk); (try clear hi)) | ((with_reducible refine gate_dst (N := 3) rfl ?_); refine box_event ?hg (N := 3) ?hd (cs := #[.int .i64 0, .int .i64 0]) (t := 37) ?hr ?_; (case hd => rfl); (case hg => rfl); (case hr => first | (go_simp; done) | (go_simp; rfl)); intro gb185 hg w10 hbox hb; have n0_ := Aside0.mk (below_step (by repeat (first | (with_reducible first | exact HB.out | apply below_alloc | apply pw_below_drewN | apply below_drew1) | exact HB.out)) hb); have n1_ := Aside0.mk (hbox); have n2_ := Aside0.mk ((by rw [hg]; exact (below_size (by repeat (first | (with_reducible first | exact HB.out | apply below_alloc | apply pw_below_drewN | apply below_drew1) | exact HB.out))) : w.heap.size ≤ gb185)); have n3_ := Aside0.mk ((by rw [hg]; exact (below_size (by repeat (first | (with_reducible first | exact HB.out | apply below_alloc | apply pw_below_drewN | apply below_drew1) | exact HB.out))) : w.heap.size ≤ gb185)); clear HB; have HB := n0_; have BK185 := n1_; have GW185 := n2_; have GE185 := n3_; clear n0_ n1_ n2_ n3_; clear hb hbox hg) | ((with_reducible refine gate_dst (N := 4) rfl ?_); refine box_event ?hg (N := 4) ?hd (cs := #[.int .i64 0, .int .i64 0]) (t := 37) ?hr ?_; (case hd => rfl); (case hg => rfl); (case hr => first | (go_simp; done) | (go_simp; rfl)); intro gb186 hg w11 hbox hb; have n0_ := Aside0.mk (blk_below (g := gb185) (o := .cells #[.int .i64 0, .int .i64 0] 37 (0, 0)) (by (with_reducible repeat (first | refine blk_drewN ?_ _ | refine blk_drew ?_ | refine blk_alloc ?_ _)); exact BK185.out) hb); have n1_ := Aside0.mk (below_step (by repeat (first | (with_reducible first | exact HB.out | apply below_alloc | apply pw_below_drewN | apply below_drew1 | refine below_set ?_ GE185.out) | exact HB.out)) hb); have n2_ := Aside0.mk (hbox); have n3_ := Aside0.mk ((by rw [hg]; exact (below_size (by repeat (first | (with_reducible first | exact HB.out | apply below_alloc | apply pw_below_drewN | apply below_drew1 | refine below_set ?_ GE185.out) | exact HB.out))) : w.heap.size ≤ gb186)); have n4_ := Aside0.mk ((by rw [hg]; exact (below_size (by repeat (first | (with_reducible first | exact HB.out | apply below_alloc | apply pw_below_drewN | apply below_drew1 | refine below_set ?_ GE185.out) | exact HB.out))) : w.heap.size ≤ gb186)); have n5_ := Aside0.mk ((by rw [hg]; exact Nat.ne_of_lt (blk_lt (g := gb185) (o := .cells #[.int .i64 0, .int .i64 0] 37 (0, 0)) (by (with_reducible repeat (first | refine blk_drewN ?_ _ | refine blk_drew ?_ | refine blk_alloc ?_ _)); exact BK185.out)) : gb185 ≠ gb186)); have n6_ := Aside0.mk ((by rw [hg]; exact Nat.ne_of_gt (blk_lt (g := gb185) (o := .cells #[.int .i64 0, .int .i64 0] 37 (0, 0)) (by (with_reducible repeat (first | refine blk_drewN ?_ _ | refine blk_drew ?_ | refine blk_alloc ?_ _)); exact BK185.out)) : gb186 ≠ gb185)); clear BK185; clear HB; have BK185 := n0_; have HB := n1_; have BK186 := n2_; have GW186 := n3_; have GE186 := n4_; have NB185_186 := n5_; have NB186_185 := n6_; clear n0_ n1_ n2_ n3_ n4_ n5_ n6_; clear hb hbox hg; have hnb12 := NB185_186.out; have hnc12 := NB186_185.out; have hcz13_0 : w11.cell? ⟨gb185, 0, none⟩ = some (.int .i64 0) := (blk_cell BK185.out 0).trans rfl; have hcz13_1 : w11.cell? ⟨gb185, 1, none⟩ = some (.int .i64 0) := (blk_cell BK185.out 1).trans rfl; have hfz13_0 := blk_frozen BK185.out 0; have hfz13_1 := blk_frozen BK185.out 1; have hcz14_0 : w11.cell? ⟨gb186, 0, none⟩ = some (.int .i64 0) := (blk_cell BK186.out 0).trans rfl; have hcz14_1 : w11.cell? ⟨gb186, 1, none⟩ = some (.int .i64 0) := (blk_cell BK186.out 1).trans rfl; have hfz14_0 := blk_frozen BK186.out 0; have hfz14_1 := blk_frozen BK186.out 1) | ((with_reducible refine gate_callee (f := 47) rfl ?_); refine goesL_ (some 25) rfl rfl Try.func47 (by kernel_rfl) rfl #[.agg #[.int .i64 t181, .int .i64 t182], .agg #[.int .i64 t183, .int .i64 t184]] rfl (by (try simp only [List.map_toArray, List.map_cons, List.map_nil]); first | done | rfl | (simp only [List.length_drop, List.length_take]; rfl)) ?_; (with_reducible refine (spec_Overlap.calls t181 t182 t183 t184 t187 t188 t189 _ A5.out).mono ?_); rintro e w15 ⟨rfl, hb⟩; refine ⟨_, rfl, ?_⟩; have n0_ := Aside0.mk (blk_below (g := gb185) (o := .cells #[.int .i64 t181, .int .i64 t182] 37 (0, 0)) (by (with_reducible repeat (first | refine blk_drewN ?_ _ | refine blk_drew ?_ | refine blk_alloc ?_ _)); refine blk_far ?_ NB185_186.out _; (with_reducible repeat (first | refine blk_drewN ?_ _ | refine blk_drew ?_ | refine blk_alloc ?_ _)); refine blk_far ?_ NB185_186.out _; (with_reducible repeat (first | refine blk_drewN ?_ _ | refine blk_drew ?_ | refine blk_alloc ?_ _)); refine blk_put (cs := #[.int .i64 t181, .int .i64 0]) ?_ 1 _ rfl; (with_reducible repeat (first | refine blk_drewN ?_ _ | refine blk_drew ?_ | refine blk_alloc ?_ _)); refine blk_put (cs := #[.int .i64 0, .int .i64 0]) ?_ 0 _ rfl; (with_reducible repeat (first | refine blk_drewN ?_ _ | refine blk_drew ?_ | refine blk_alloc ?_ _)); exact BK185.out) hb); have n1_ := Aside0.mk (blk_below (g := gb186) (o := .cells #[.int .i64 t183, .int .i64 t184] 37 (0, 0)) (by (with_reducible repeat (first | refine blk_drewN ?_ _ | refine blk_drew ?_ | refine blk_alloc ?_ _)); refine blk_put (cs := #[.int .i64 t183, .int .i64 0]) ?_ 1 _ rfl; (with_reducible repeat (first | refine blk_drewN ?_ _ | refine blk_drew ?_ | refine blk_alloc ?_ _)); refine blk_put (cs := #[.int .i64 0, .int .i64 0]) ?_ 0 _ rfl; (with_reducible repeat (first | refine blk_drewN ?_ _ | refine blk_drew ?_ | refine blk_alloc ?_ _)); refine blk_far ?_ NB186_185.out _; (with_reducible repeat (first | refine blk_drewN ?_ _ | refine blk_drew ?_ | refine blk_alloc ?_ _)); refine blk_far ?_ NB186_185.out _; (with_reducible repeat (first | refine blk_drewN ?_ _ | refine blk_drew ?_ | refine blk_alloc ?_ _)); exact BK186.out) hb); have n2_ := Aside0.mk (below_step (by repeat (first | (with_reducible first | exact HB.out | apply below_alloc | apply pw_below_drewN | apply below_drew1 | refine below_set ?_ GE185.out | refine below_set ?_ GE186.out) | exact HB.out)) hb); clear BK185; clear BK186; clear HB; have BK185 := n0_; have BK186 := n1_; have HB := n2_; clear n0_ n1_ n2_; (try clear hb); (try clear hb2); (try clear hk); (try clear hi)) | ((with_reducible refine gate_dst (N := 5) rfl ?_); refine box_event ?hg (N := 5) ?hd (cs := #[.int .i64 0, .int .i64 0]) (t := 37) ?hr ?_; (case hd => rfl); (case hg => rfl); (case hr => first | (go_simp; done) | (go_simp; rfl)); intro gb190 hg w16 hbox hb; have n0_ := Aside0.mk (blk_below (g := gb185) (o := .cells #[.int .i64 t181, .int .i64 t182] 37 (0, 0)) (by (with_reducible repeat (first | refine blk_drewN ?_ _ | refine blk_drew ?_ | refine blk_alloc ?_ _)); exact BK185.out) hb); have n1_ := Aside0.mk (blk_below (g := gb186) (o := .cells #[.int .i64 t183, .int .i64 t184] 37 (0, 0)) (by (with_reducible repeat (first | refine blk_drewN ?_ _ | refine blk_drew ?_ | refine blk_alloc ?_ _)); exact BK186.out) hb); have n2_ := Aside0.mk (below_step (by repeat (first | (with_reducible first | exact HB.out | apply below_alloc | apply pw_below_drewN | apply below_drew1 | refine below_set ?_ GE185.out | refine below_set ?_ GE186.out) | exact HB.out)) hb); have n3_ := Aside0.mk (hbox); have n4_ := Aside0.mk ((by rw [hg]; exact (below_size (by repeat (first | (with_reducible first | exact HB.out | apply below_alloc | apply pw_below_drewN | apply below_drew1 | refine below_set ?_ GE185.out | refine below_set ?_ GE186.out) | exact HB.out))) : w.heap.size ≤ gb190)); have n5_ := Aside0.mk ((by rw [hg]; exact (below_size (by repeat (first | (with_reducible first | exact HB.out | apply below_alloc | apply pw_below_drewN | apply below_drew1 | refine below_set ?_ GE185.out | refine below_set ?_ GE186.out) | exact HB.out))) : w.heap.size ≤ gb190)); have n6_ := Aside0.mk ((by rw [hg]; exact Nat.ne_of_lt (blk_lt (g := gb185) (o := .cells #[.int .i64 t181, .int .i64 t182] 37 (0, 0)) (by (with_reducible repeat (first | refine blk_drewN ?_ _ | refine blk_drew ?_ | refine blk_alloc ?_ _)); exact BK185.out)) : gb185 ≠ gb190)); have n7_ := Aside0.mk ((by rw [hg]; exact Nat.ne_of_gt (blk_lt (g := gb185) (o := .cells #[.int .i64 t181, .int .i64 t182] 37 (0, 0)) (by (with_reducible repeat (first | refine blk_drewN ?_ _ | refine blk_drew ?_ | refine blk_alloc ?_ _)); exact BK185.out)) : gb190 ≠ gb185)); have n8_ := Aside0.mk ((by rw [hg]; exact Nat.ne_of_lt (blk_lt (g := gb186) (o := .cells #[.int .i64 t183, .int .i64 t184] 37 (0, 0)) (by (with_reducible repeat (first | refine blk_drewN ?_ _ | refine blk_drew ?_ | refine blk_alloc ?_ _)); exact BK186.out)) : gb186 ≠ gb190)); have n9_ := Aside0.mk ((by rw [hg]; exact Nat.ne_of_gt (blk_lt (g := gb186) (o := .cells #[.int .i64 t183, .int .i64 t184] 37 (0, 0)) (by (with_reducible repeat (first | refine blk_drewN ?_ _ | refine blk_drew ?_ | refine blk_alloc ?_ _)); exact BK186.out)) : gb190 ≠ gb186)); clear BK185; clear BK186; clear HB; have BK185 := n0_; have BK186 := n1_; have HB := n2_; have BK190 := n3_; have GW190 := n4_; have GE190 := n5_; have NB185_190 := n6_; have NB190_185 := n7_; have NB186_190 := n8_; have NB190_186 := n9_; clear n0_ n1_ n2_ n3_ n4_ n5_ n6_ n7_ n8_ n9_; clear hb hbox hg; have hnb17 := NB190_185.out; have hnc17 := NB185_190.out; have hnb18 := NB190_186.out; have hnc18 := NB186_190.out; have hcz19_0 : w16.cell? ⟨gb190, 0, none⟩ = some (.int .i64 0) := (blk_cell BK190.out 0).trans rfl; have hcz19_1 : w16.cell? ⟨gb190, 1, none⟩ = some (.int .i64 0) := (blk_cell BK190.out 1).trans rfl; have hfz19_0 := blk_frozen BK190.out 0; have hfz19_1 := blk_frozen BK190.out 1; have hcz20_0 : w16.cell? ⟨gb185, 0, none⟩ = some (.int .i64 t181) := (blk_cell BK185.out 0).trans rfl; have hcz20_1 : w16.cell? ⟨gb185, 1, none⟩ = some (.int .i64 t182) := (blk_cell BK185.out 1).trans rfl; have hfz20_0 := blk_frozen BK185.out 0; have hfz20_1 := blk_frozen BK185.out 1; have hcz21_0 : w16.cell? ⟨gb186, 0, none⟩ = some (.int .i64 t183) := (blk_cell BK186.out 0).trans rfl; have hcz21_1 : w16.cell? ⟨gb186, 1, none⟩ = some (.int .i64 t184) := (blk_cell BK186.out 1).trans rfl; have hfz21_0 := blk_frozen BK186.out 0; have hfz21_1 := blk_frozen BK186.out 1) | ((with_reducible refine gate_callee (f := 48) rfl ?_); refine goesL_ (some 31) rfl rfl Try.func48 (by kernel_rfl) rfl #[.agg #[.int .i64 t181, .int .i64 t182], .agg #[.int .i64 t183, .int .i64 t184]] rfl (by (try simp only [List.map_toArray, List.map_cons, List.map_nil]); first | done | rfl | (simp only [List.length_drop, List.length_take]; rfl)) ?_; (with_reducible refine (impl_Overlap.calls t181 t182 t183 t184 t191 t192 t193 _ A6.out).mono ?_); rintro e w22 ⟨rfl, hb⟩; refine ⟨_, rfl, ?_⟩; have n0_ := Aside0.mk (blk_below (g := gb185) (o := .cells #[.int .i64 t181, .int .i64 t182] 37 (0, 0)) (by (with_reducible repeat (first | refine blk_drewN ?_ _ | refine blk_drew ?_ | refine blk_alloc ?_ _)); refine blk_far ?_ NB185_190.out _; (with_reducible repeat (first | refine blk_drewN ?_ _ | refine blk_drew ?_ | refine blk_alloc ?_ _)); refine blk_far ?_ NB185_190.out _; (with_reducible repeat (first | refine blk_drewN ?_ _ | refine blk_drew ?_ | refine blk_alloc ?_ _)); exact BK185.out) hb); have n1_ := Aside0.mk (blk_below (g := gb186) (o := .cells #[.int .i64 t183, .int .i64 t184] 37 (0, 0)) (by (with_reducible repeat (first | refine blk_drewN ?_ _ | refine blk_drew ?_ | refine blk_alloc ?_ _)); refine blk_far ?_ NB186_190.out _; (with_reducible repeat (first | refine blk_drewN ?_ _ | refine blk_drew ?_ | refine blk_alloc ?_ _)); refine blk_far ?_ NB186_190.out _; (with_reducible repeat (first | refine blk_drewN ?_ _ | refine blk_drew ?_ | refine blk_alloc ?_ _)); exact BK186.out) hb); have n2_ := Aside0.mk (blk_below (g := gb190) (o := .cells #[.int .i64 t187, .int .i64 t188] 37 (0, 0)) (by (with_reducible repeat (first | refine blk_drewN ?_ _ | refine blk_drew ?_ | refine blk_alloc ?_ _)); refine blk_put (cs := #[.int .i64 t187, .int .i64 0]) ?_ 1 _ rfl; (with_reducible repeat (first | refine blk_drewN ?_ _ | refine blk_drew ?_ | refine blk_alloc ?_ _)); refine blk_put (cs := #[.int .i64 0, .int .i64 0]) ?_ 0 _ rfl; (with_reducible repeat (first | refine blk_drewN ?_ _ | refine blk_drew ?_ | refine blk_alloc ?_ _)); exact BK190.out) hb); have n3_ := Aside0.mk (below_step (by repeat (first | (with_reducible first | exact HB.out | apply below_alloc | apply pw_below_drewN | apply below_drew1 | refine below_set ?_ GE185.out | refine below_set ?_ GE186.out | refine below_set ?_ GE190.out) | exact HB.out)) hb); clear BK185; clear BK186; clear BK190; clear HB; have BK185 := n0_; have BK186 := n1_; have BK190 := n2_; have HB := n3_; clear n0_ n1_ n2_ n3_; (try clear hb); (try clear hb2); (try clear hk); (try clear hi)) | ((with_reducible refine gate_dst (N := 7) rfl ?_); refine box_event ?hg (N := 7) ?hd (cs := #[.int .i64 0, .int .i64 0]) (t := 37) ?hr ?_; (case hd => rfl); (case hg => rfl); (case hr => first | (go_simp; done) | (go_simp; rfl)); intro gb194 hg w23 hbox hb; have n0_ := Aside0.mk (blk_below (g := gb185) (o := .cells #[.int .i64 t181, .int .i64 t182] 37 (0, 0)) (by (with_reducible repeat (first | refine blk_drewN ?_ _ | refine blk_drew ?_ | refine blk_alloc ?_ _)); exact BK185.out) hb); have n1_ := Aside0.mk (blk_below (g := gb186) (o := .cells #[.int .i64 t183, .int .i64 t184] 37 (0, 0)) (by (with_reducible repeat (first | refine blk_drewN ?_ _ | refine blk_drew ?_ | refine blk_alloc ?_ _)); exact BK186.out) hb); have n2_ := Aside0.mk (blk_below (g := gb190) (o := .cells #[.int .i64 t187, .int .i64 t188] 37 (0, 0)) (by (with_reducible repeat (first | refine blk_drewN ?_ _ | refine blk_drew ?_ | refine blk_alloc ?_ _)); exact BK190.out) hb); have n3_ := Aside0.mk (below_step (by repeat (first | (with_reducible first | exact HB.out | apply below_alloc | apply pw_below_drewN | apply below_drew1 | refine below_set ?_ GE185.out | refine below_set ?_ GE186.out | refine below_set ?_ GE190.out) | exact HB.out)) hb); have n4_ := Aside0.mk (hbox); have n5_ := Aside0.mk ((by rw [hg]; exact (below_size (by repeat (first | (with_reducible first | exact HB.out | apply below_alloc | apply pw_below_drewN | apply below_drew1 | refine below_set ?_ GE185.out | refine below_set ?_ GE186.out | refine below_set ?_ GE190.out) | exact HB.out))) : w.heap.size ≤ gb194)); have n6_ := Aside0.mk ((by rw [hg]; exact (below_size (by repeat (first | (with_reducible first | exact HB.out | apply below_alloc | apply pw_below_drewN | apply below_drew1 | refine below_set ?_ GE185.out | refine below_set ?_ GE186.out | refine below_set ?_ GE190.out) | exact HB.out))) : w.heap.size ≤ gb194)); have n7_ := Aside0.mk ((by rw [hg]; exact Nat.ne_of_lt (blk_lt (g := gb185) (o := .cells #[.int .i64 t181, .int .i64 t182] 37 (0, 0)) (by (with_reducible repeat (first | refine blk_drewN ?_ _ | refine blk_drew ?_ | refine blk_alloc ?_ _)); exact BK185.out)) : gb185 ≠ gb194)); have n8_ := Aside0.mk ((by rw [hg]; exact Nat.ne_of_gt (blk_lt (g := gb185) (o := .cells #[.int .i64 t181, .int .i64 t182] 37 (0, 0)) (by (with_reducible repeat (first | refine blk_drewN ?_ _ | refine blk_drew ?_ | refine blk_alloc ?_ _)); exact BK185.out)) : gb194 ≠ gb185)); have n9_ := Aside0.mk ((by rw [hg]; exact Nat.ne_of_lt (blk_lt (g := gb186) (o := .cells #[.int .i64 t183, .int .i64 t184] 37 (0, 0)) (by (with_reducible repeat (first | refine blk_drewN ?_ _ | refine blk_drew ?_ | refine blk_alloc ?_ _)); exact BK186.out)) : gb186 ≠ gb194)); have n10_ := Aside0.mk ((by rw [hg]; exact Nat.ne_of_gt (blk_lt (g := gb186) (o := .cells #[.int .i64 t183, .int .i64 t184] 37 (0, 0)) (by (with_reducible repeat (first | refine blk_drewN ?_ _ | refine blk_drew ?_ | refine blk_alloc ?_ _)); exact BK186.out)) : gb194 ≠ gb186)); have n11_ := Aside0.mk ((by rw [hg]; exact Nat.ne_of_lt (blk_lt (g := gb190) (o := .cells #[.int .i64 t187, .int .i64 t188] 37 (0, 0)) (by (with_reducible repeat (first | refine blk_drewN ?_ _ | refine blk_drew ?_ | refine blk_alloc ?_ _)); exact BK190.out)) : gb190 ≠ gb194)); have n12_ := Aside0.mk ((by rw [hg]; exact Nat.ne_of_gt (blk_lt (g := gb190) (o := .cells #[.int .i64 t187, .int .i64 t188] 37 (0, 0)) (by (with_reducible repeat (first | refine blk_drewN ?_ _ | refine blk_drew ?_ | refine blk_alloc ?_ _)); exact BK190.out)) : gb194 ≠ gb190)); clear BK185; clear BK186; clear BK190; clear HB; have BK185 := n0_; have BK186 := n1_; have BK190 := n2_; have HB := n3_; have BK194 := n4_; have GW194 := n5_; have GE194 := n6_; have NB185_194 := n7_; have NB194_185 := n8_; have NB186_194 := n9_; have NB194_186 := n10_; have NB190_194 := n11_; have NB194_190 := n12_; clear n0_ n1_ n2_ n3_ n4_ n5_ n6_ n7_ n8_ n9_ n10_ n11_ n12_; clear hb hbox hg; have hnb24 := NB194_185.out; have hnc24 := NB185_194.out; have hnb25 := NB194_186.out; have hnc25 := NB186_194.out; have hnb26 := NB194_190.out; have hnc26 := NB190_194.out; have hcz27_0 : w23.cell? ⟨gb194, 0, none⟩ = some (.int .i64 0) := (blk_cell BK194.out 0).trans rfl; have hcz27_1 : w23.cell? ⟨gb194, 1, none⟩ = some (.int .i64 0) := (blk_cell BK194.out 1).trans rfl; have hfz27_0 := blk_frozen BK194.out 0; have hfz27_1 := blk_frozen BK194.out 1; have hcz28_0 : w23.cell? ⟨gb186, 0, none⟩ = some (.int .i64 t183) := (blk_cell BK186.out 0).trans rfl; have hcz28_1 : w23.cell? ⟨gb186, 1, none⟩ = some (.int .i64 t184) := (blk_cell BK186.out 1).trans rfl; have hfz28_0 := blk_frozen BK186.out 0; have hfz28_1 := blk_frozen BK186.out 1; have hcz29_0 : w23.cell? ⟨gb185, 0, none⟩ = some (.int .i64 t181) := (blk_cell BK185.out 0).trans rfl; have hcz29_1 : w23.cell? ⟨gb185, 1, none⟩ = some (.int .i64 t182) := (blk_cell BK185.out 1).trans rfl; have hfz29_0 := blk_frozen BK185.out 0; have hfz29_1 := blk_frozen BK185.out 1) | ((with_reducible refine gate_callee (f := 48) rfl ?_); refine goesL_ (some 37) rfl rfl Try.func48 (by kernel_rfl) rfl #[.agg #[.int .i64 t183, .int .i64 t184], .agg #[.int .i64 t181, .int .i64 t182]] rfl (by (try simp only [List.map_toArray, List.map_cons, List.map_nil]); first | done | rfl | (simp only [List.length_drop, List.length_take]; rfl)) ?_; (with_reducible refine (impl_Overlap.calls t183 t184 t181 t182 t195 t196 t197 _ A7.out).mono ?_); rintro e w30 ⟨rfl, hb⟩; refine ⟨_, rfl, ?_⟩; have n0_ := Aside0.mk (blk_below (g := gb185) (o := .cells #[.int .i64 t181, .int .i64 t182] 37 (0, 0)) (by (with_reducible repeat (first | refine blk_drewN ?_ _ | refine blk_drew ?_ | refine blk_alloc ?_ _)); refine blk_far ?_ NB185_194.out _; (with_reducible repeat (first | refine blk_drewN ?_ _ | refine blk_drew ?_ | refine blk_alloc ?_ _)); refine blk_far ?_ NB185_194.out _; (with_reducible repeat (first | refine blk_drewN ?_ _ | refine blk_drew ?_ | refine blk_alloc ?_ _)); exact BK185.out) hb); have n1_ := Aside0.mk (blk_below (g := gb186) (o := .cells #[.int .i64 t183, .int .i64 t184] 37 (0, 0)) (by (with_reducible repeat (first | refine blk_drewN ?_ _ | refine blk_drew ?_ | refine blk_alloc ?_ _)); refine blk_far ?_ NB186_194.out _; (with_reducible repeat (first | refine blk_drewN ?_ _ | refine blk_drew ?_ | refine blk_alloc ?_ _)); refine blk_far ?_ NB186_194.out _; (with_reducible repeat (first | refine blk_drewN ?_ _ | refine blk_drew ?_ | refine blk_alloc ?_ _)); exact BK186.out) hb); have n2_ := Aside0.mk (blk_below (g := gb190) (o := .cells #[.int .i64 t187, .int .i64 t188] 37 (0, 0)) (by (with_reducible repeat (first | refine blk_drewN ?_ _ | refine blk_drew ?_ | refine blk_alloc ?_ _)); refine blk_far ?_ NB190_194.out _; (with_reducible repeat (first | refine blk_drewN ?_ _ | refine blk_drew ?_ | refine blk_alloc ?_ _)); refine blk_far ?_ NB190_194.out _; (with_reducible repeat (first | refine blk_drewN ?_ _ | refine blk_drew ?_ | refine blk_alloc ?_ _)); exact BK190.out) hb); have n3_ := Aside0.mk (blk_below (g := gb194) (o := .cells #[.int .i64 t191, .int .i64 t192] 37 (0, 0)) (by (with_reducible repeat (first | refine blk_drewN ?_ _ | refine blk_drew ?_ | refine blk_alloc ?_ _)); refine blk_put (cs := #[.int .i64 t191, .int .i64 0]) ?_ 1 _ rfl; (with_reducible repeat (first | refine blk_drewN ?_ _ | refine blk_drew ?_ | refine blk_alloc ?_ _)); refine blk_put (cs := #[.int .i64 0, .int .i64 0]) ?_ 0 _ rfl; (with_reducible repeat (first | refine blk_drewN ?_ _ | refine blk_drew ?_ | refine blk_alloc ?_ _)); exact BK194.out) hb); have n4_ := Aside0.mk (below_step (by repeat (first | (with_reducible first | exact HB.out | apply below_alloc | apply pw_below_drewN | apply below_drew1 | refine below_set ?_ GE185.out | refine below_set ?_ GE186.out | refine below_set ?_ GE190.out | refine below_set ?_ GE194.out) | exact HB.out)) hb); clear BK185; clear BK186; clear BK190; clear BK194; clear HB; have BK185 := n0_; have BK186 := n1_; have BK190 := n2_; have BK194 := n3_; have HB := n4_; clear n0_ n1_ n2_ n3_ n4_; (try clear hb); (try clear hb2); (try clear hk); (try clear hi)) | ((with_reducible refine gate_dst (N := 9) rfl ?_); refine box_event ?hg (N := 9) ?hd (cs := #[.int .i64 0, .int .i64 0]) (t := 37) ?hr ?_; (case hd => rfl); (case hg => rfl); (case hr => first | (go_simp; done) | (go_simp; rfl)); intro gb198 hg w31 hbox hb; have n0_ := Aside0.mk (blk_below (g := gb185) (o := .cells #[.int .i64 t181, .int .i64 t182] 37 (0, 0)) (by (with_reducible repeat (first | refine blk_drewN ?_ _ | refine blk_drew ?_ | refine blk_alloc ?_ _)); exact BK185.out) hb); have n1_ := Aside0.mk (blk_below (g := gb186) (o := .cells #[.int .i64 t183, .int .i64 t184] 37 (0, 0)) (by (with_reducible repeat (first | refine blk_drewN ?_ _ | refine blk_drew ?_ | refine blk_alloc ?_ _)); exact BK186.out) hb); have n2_ := Aside0.mk (blk_below (g := gb190) (o := .cells #[.int .i64 t187, .int .i64 t188] 37 (0, 0)) (by (with_reducible repeat (first | refine blk_drewN ?_ _ | refine blk_drew ?_ | refine blk_alloc ?_ _)); exact BK190.out) hb); have n3_ := Aside0.mk (blk_below (g := gb194) (o := .cells #[.int .i64 t191, .int .i64 t192] 37 (0, 0)) (by (with_reducible repeat (first | refine blk_drewN ?_ _ | refine blk_drew ?_ | refine blk_alloc ?_ _)); exact BK194.out) hb); have n4_ := Aside0.mk (below_step (by repeat (first | (with_reducible first | exact HB.out | apply below_alloc | apply pw_below_drewN | apply below_drew1 | refine below_set ?_ GE185.out | refine below_set ?_ GE186.out | refine below_set ?_ GE190.out | refine below_set ?_ GE194.out) | exact HB.out)) hb); have n5_ := Aside0.mk (hbox); have n6_ := Aside0.mk ((by rw [hg]; exact (below_size (by repeat (first | (with_reducible first | exact HB.out | apply below_alloc | apply pw_below_drewN | apply below_drew1 | refine below_set ?_ GE185.out | refine below_set ?_ GE186.out | refine below_set ?_ GE190.out | refine below_set ?_ GE194.out) | exact HB.out))) : w.heap.size ≤ gb198)); have n7_ := Aside0.mk ((by rw [hg]; exact (below_size (by repeat (first | (with_reducible first | exact HB.out | apply below_alloc | apply pw_below_drewN | apply below_drew1 | refine below_set ?_ GE185.out | refine below_set ?_ GE186.out | refine below_set ?_ GE190.out | refine below_set ?_ GE194.out) | exact HB.out))) : w.heap.size ≤ gb198)); have n8_ := Aside0.mk ((by rw [hg]; exact Nat.ne_of_lt (blk_lt (g := gb185) (o := .cells #[.int .i64 t181, .int .i64 t182] 37 (0, 0)) (by (with_reducible repeat (first | refine blk_drewN ?_ _ | refine blk_drew ?_ | refine blk_alloc ?_ _)); exact BK185.out)) : gb185 ≠ gb198)); have n9_ := Aside0.mk ((by rw [hg]; exact Nat.ne_of_gt (blk_lt (g := gb185) (o := .cells #[.int .i64 t181, .int .i64 t182] 37 (0, 0)) (by (with_reducible repeat (first | refine blk_drewN ?_ _ | refine blk_drew ?_ | refine blk_alloc ?_ _)); exact BK185.out)) : gb198 ≠ gb185)); have n10_ := Aside0.mk ((by rw [hg]; exact Nat.ne_of_lt (blk_lt (g := gb186) (o := .cells #[.int .i64 t183, .int .i64 t184] 37 (0, 0)) (by (with_reducible repeat (first | refine blk_drewN ?_ _ | refine blk_drew ?_ | refine blk_alloc ?_ _)); exact BK186.out)) : gb186 ≠ gb198)); have n11_ := Aside0.mk ((by rw [hg]; exact Nat.ne_of_gt (blk_lt (g := gb186) (o := .cells #[.int .i64 t183, .int .i64 t184] 37 (0, 0)) (by (with_reducible repeat (first | refine blk_drewN ?_ _ | refine blk_drew ?_ | refine blk_alloc ?_ _)); exact BK186.out)) : gb198 ≠ gb186)); have n12_ := Aside0.mk ((by rw [hg]; exact Nat.ne_of_lt (blk_lt (g := gb190) (o := .cells #[.int .i64 t187, .int .i64 t188] 37 (0, 0)) (by (with_reducible repeat (first | refine blk_drewN ?_ _ | refine blk_drew ?_ | refine blk_alloc ?_ _)); exact BK190.out)) : gb190 ≠ gb198)); have n13_ := Aside0.mk ((by rw [hg]; exact Nat.ne_of_gt (blk_lt (g := gb190) (o := .cells #[.int .i64 t187, .int .i64 t188] 37 (0, 0)) (by (with_reducible repeat (first | refine blk_drewN ?_ _ | refine blk_drew ?_ | refine blk_alloc ?_ _)); exact BK190.out)) : gb198 ≠ gb190)); have n14_ := Aside0.mk ((by rw [hg]; exact Nat.ne_of_lt (blk_lt (g := gb194) (o := .cells #[.int .i64 t191, .int .i64 t192] 37 (0, 0)) (by (with_reducible repeat (first | refine blk_drewN ?_ _ | refine blk_drew ?_ | refine blk_alloc ?_ _)); exact BK194.out)) : gb194 ≠ gb198)); have n15_ := Aside0.mk ((by rw [hg]; exact Nat.ne_of_gt (blk_lt (g := gb194) (o := .cells #[.int .i64 t191, .int .i64 t192] 37 (0, 0)) (by (with_reducible repeat (first | refine blk_drewN ?_ _ | refine blk_drew ?_ | refine blk_alloc ?_ _)); exact BK194.out)) : gb198 ≠ gb194)); clear BK185; clear BK186; clear BK190; clear BK194; clear HB; have BK185 := n0_; have BK186 := n1_; have BK190 := n2_; have BK194 := n3_; have HB := n4_; have BK198 := n5_; have GW198 := n6_; have GE198 := n7_; have NB185_198 := n8_; have NB198_185 := n9_; have NB186_198 := n10_; have NB198_186 := n11_; have NB190_198 := n12_; have NB198_190 := n13_; have NB194_198 := n14_; have NB198_194 := n15_; clear n0_ n1_ n2_ n3_ n4_ n5_ n6_ n7_ n8_ n9_ n10_ n11_ n12_ n13_ n14_ n15_; clear hb hbox hg; have hnb32 := NB198_185.out; have hnc32 := NB185_198.out; have hnb33 := NB198_186.out; have hnc33 := NB186_198.out; have hnb34 := NB198_190.out; have hnc34 := NB190_198.out; have hnb35 := NB198_194.out; have hnc35 := NB194_198.out; have hcz36_0 : w31.cell? ⟨gb198, 0, none⟩ = some (.int .i64 0) := (blk_cell BK198.out 0).trans rfl; have hcz36_1 : w31.cell? ⟨gb198, 1, none⟩ = some (.int .i64 0) := (blk_cell BK198.out 1).trans rfl; have hfz36_0 := blk_frozen BK198.out 0; have hfz36_1 := blk_frozen BK198.out 1))
    (try simp only [Act.put, List.setIfInBounds_toArray, List.set_cons_zero, List.set_cons_succ])
    go_cut [52] (fun v52 wc => ∃ (kq : Nat) (x52_7 : Bool), v52 = .bool x52_7 ∧ Aside0 (laws_FnOverlaps.j0 kq t193 x52_7 t181 t182 t183 t184 t191 t192 = some r) ∧ Aside0 (kq ≤ k) ∧ Aside0 (wc.heap[gb185]? = some (.cells #[.int .i64 t181, .int .i64 t182] 37 (0, 0))) ∧ Aside0 (wc.heap[gb186]? = some (.cells #[.int .i64 t183, .int .i64 t184] 37 (0, 0))) ∧ Aside0 (wc.heap[gb190]? = some (.cells #[.int .i64 t187, .int .i64 t188] 37 (0, 0))) ∧ Aside0 (wc.heap[gb194]? = some (.cells #[.int .i64 t191, .int .i64 t192] 37 (0, 0))) ∧ Aside0 (wc.heap[gb198]? = some (.cells #[.int .i64 t195, .int .i64 t196] 37 (0, 0))) ∧ Aside0 (Below w.heap.size w wc))
    case first =>
      have H := HC8.out
      clear HC8
      by_cases c37 : (t193 != t189) = true
      · rw [if_pos c37] at H
        have c37b0 : (t193 != t189) = true := c37
        (try (have c37b1 : decide (t193 = t189) = false := by simpa using c37))
        (try (have c37b2 : (t193 == t189) = false := by simpa using c37))
        (try (have c37b3 : ¬ (t193 = t189) := by simpa using c37))
        clear c37
        (first | rw [c37b0] | (simp only [i64_w, i32_w]; rw [c37b0]) | skip)
        have H' := Aside0.mk H
        clear H
        go_wp2
        go_meet
        case rel => exact ⟨_, (true), (by first | rfl | (simp; done) | (simp [*]; done)), H', ⟨by first | omega | exact Nat.le_refl _⟩, ⟨by (with_reducible repeat (first | refine blk_drewN ?_ _ | refine blk_drew ?_ | refine blk_alloc ?_ _)); refine blk_far ?_ NB185_198.out _; (with_reducible repeat (first | refine blk_drewN ?_ _ | refine blk_drew ?_ | refine blk_alloc ?_ _)); refine blk_far ?_ NB185_198.out _; (with_reducible repeat (first | refine blk_drewN ?_ _ | refine blk_drew ?_ | refine blk_alloc ?_ _)); exact BK185.out⟩, ⟨by (with_reducible repeat (first | refine blk_drewN ?_ _ | refine blk_drew ?_ | refine blk_alloc ?_ _)); refine blk_far ?_ NB186_198.out _; (with_reducible repeat (first | refine blk_drewN ?_ _ | refine blk_drew ?_ | refine blk_alloc ?_ _)); refine blk_far ?_ NB186_198.out _; (with_reducible repeat (first | refine blk_drewN ?_ _ | refine blk_drew ?_ | refine blk_alloc ?_ _)); exact BK186.out⟩, ⟨by (with_reducible repeat (first | refine blk_drewN ?_ _ | refine blk_drew ?_ | refine blk_alloc ?_ _)); refine blk_far ?_ NB190_198.out _; (with_reducible repeat (first | refine blk_drewN ?_ _ | refine blk_drew ?_ | refine blk_alloc ?_ _)); refine blk_far ?_ NB190_198.out _; (with_reducible repeat (first | refine blk_drewN ?_ _ | refine blk_drew ?_ | refine blk_alloc ?_ _)); exact BK190.out⟩, ⟨by (with_reducible repeat (first | refine blk_drewN ?_ _ | refine blk_drew ?_ | refine blk_alloc ?_ _)); refine blk_far ?_ NB194_198.out _; (with_reducible repeat (first | refine blk_drewN ?_ _ | refine blk_drew ?_ | refine blk_alloc ?_ _)); refine blk_far ?_ NB194_198.out _; (with_reducible repeat (first | refine blk_drewN ?_ _ | refine blk_drew ?_ | refine blk_alloc ?_ _)); exact BK194.out⟩, ⟨by (with_reducible repeat (first | refine blk_drewN ?_ _ | refine blk_drew ?_ | refine blk_alloc ?_ _)); refine blk_put (cs := #[.int .i64 t195, .int .i64 0]) ?_ 1 _ rfl; (with_reducible repeat (first | refine blk_drewN ?_ _ | refine blk_drew ?_ | refine blk_alloc ?_ _)); refine blk_put (cs := #[.int .i64 0, .int .i64 0]) ?_ 0 _ rfl; (with_reducible repeat (first | refine blk_drewN ?_ _ | refine blk_drew ?_ | refine blk_alloc ?_ _)); exact BK198.out⟩, ⟨by repeat (first | (with_reducible first | exact HB.out | apply below_alloc | apply pw_below_drewN | apply below_drew1 | refine below_set ?_ GE185.out | refine below_set ?_ GE186.out | refine below_set ?_ GE190.out | refine below_set ?_ GE194.out | refine below_set ?_ GE198.out) | exact HB.out)⟩⟩
      · rw [if_neg c37] at H
        have c37b0 : (t193 != t189) = false := by simpa using c37
        (try (have c37b1 : decide (t193 = t189) = true := by simpa using c37))
        (try (have c37b2 : (t193 == t189) = true := by simpa using c37))
        clear c37
        (first | rw [c37b0] | (simp only [i64_w, i32_w]; rw [c37b0]) | skip)
        by_cases c38 : (t197 != t193) = true
        · rw [if_pos c38] at H
          have c38b0 : (t197 != t193) = true := c38
          (try (have c38b1 : decide (t197 = t193) = false := by simpa using c38))
          (try (have c38b2 : (t197 == t193) = false := by simpa using c38))
          (try (have c38b3 : ¬ (t197 = t193) := by simpa using c38))
          clear c38
          have H' := Aside0.mk H
          clear H
          go_wp2
          go_meet
          case rel => exact ⟨_, (true), (by first | rfl | (simp; done) | (simp [*]; done)), H', ⟨by first | omega | exact Nat.le_refl _⟩, ⟨by (with_reducible repeat (first | refine blk_drewN ?_ _ | refine blk_drew ?_ | refine blk_alloc ?_ _)); refine blk_far ?_ NB185_198.out _; (with_reducible repeat (first | refine blk_drewN ?_ _ | refine blk_drew ?_ | refine blk_alloc ?_ _)); refine blk_far ?_ NB185_198.out _; (with_reducible repeat (first | refine blk_drewN ?_ _ | refine blk_drew ?_ | refine blk_alloc ?_ _)); exact BK185.out⟩, ⟨by (with_reducible repeat (first | refine blk_drewN ?_ _ | refine blk_drew ?_ | refine blk_alloc ?_ _)); refine blk_far ?_ NB186_198.out _; (with_reducible repeat (first | refine blk_drewN ?_ _ | refine blk_drew ?_ | refine blk_alloc ?_ _)); refine blk_far ?_ NB186_198.out _; (with_reducible repeat (first | refine blk_drewN ?_ _ | refine blk_drew ?_ | refine blk_alloc ?_ _)); exact BK186.out⟩, ⟨by (with_reducible repeat (first | refine blk_drewN ?_ _ | refine blk_drew ?_ | refine blk_alloc ?_ _)); refine blk_far ?_ NB190_198.out _; (with_reducible repeat (first | refine blk_drewN ?_ _ | refine blk_drew ?_ | refine blk_alloc ?_ _)); refine blk_far ?_ NB190_198.out _; (with_reducible repeat (first | refine blk_drewN ?_ _ | refine blk_drew ?_ | refine blk_alloc ?_ _)); exact BK190.out⟩, ⟨by (with_reducible repeat (first | refine blk_drewN ?_ _ | refine blk_drew ?_ | refine blk_alloc ?_ _)); refine blk_far ?_ NB194_198.out _; (with_reducible repeat (first | refine blk_drewN ?_ _ | refine blk_drew ?_ | refine blk_alloc ?_ _)); refine blk_far ?_ NB194_198.out _; (with_reducible repeat (first | refine blk_drewN ?_ _ | refine blk_drew ?_ | refine blk_alloc ?_ _)); exact BK194.out⟩, ⟨by (with_reducible repeat (first | refine blk_drewN ?_ _ | refine blk_drew ?_ | refine blk_alloc ?_ _)); refine blk_put (cs := #[.int .i64 t195, .int .i64 0]) ?_ 1 _ rfl; (with_reducible repeat (first | refine blk_drewN ?_ _ | refine blk_drew ?_ | refine blk_alloc ?_ _)); refine blk_put (cs := #[.int .i64 0, .int .i64 0]) ?_ 0 _ rfl; (with_reducible repeat (first | refine blk_drewN ?_ _ | refine blk_drew ?_ | refine blk_alloc ?_ _)); exact BK198.out⟩, ⟨by repeat (first | (with_reducible first | exact HB.out | apply below_alloc | apply pw_below_drewN | apply below_drew1 | refine below_set ?_ GE185.out | refine below_set ?_ GE186.out | refine below_set ?_ GE190.out | refine below_set ?_ GE194.out | refine below_set ?_ GE198.out) | exact HB.out)⟩⟩
        · rw [if_neg c38] at H
          have c38b0 : (t197 != t193) = false := by simpa using c38
          (try (have c38b1 : decide (t197 = t193) = true := by simpa using c38))
          (try (have c38b2 : (t197 == t193) = true := by simpa using c38))
          clear c38
          have H' := Aside0.mk H
          clear H
          have hnb39 := NB198_185.out
          have hnc39 := NB185_198.out
          have hnb40 := NB198_186.out
          have hnc40 := NB186_198.out
          have hnb41 := NB198_190.out
          have hnc41 := NB190_198.out
          have hnb42 := NB198_194.out
          have hnc42 := NB194_198.out
          have hcz43_0 : w31.cell? ⟨gb198, 0, none⟩ = some (.int .i64 0) := (blk_cell BK198.out 0).trans rfl
          have hcz43_1 : w31.cell? ⟨gb198, 1, none⟩ = some (.int .i64 0) := (blk_cell BK198.out 1).trans rfl
          have hfz43_0 := blk_frozen BK198.out 0
          have hfz43_1 := blk_frozen BK198.out 1
          have hnb44 := NB194_185.out
          have hnc44 := NB185_194.out
          have hnb45 := NB194_186.out
          have hnc45 := NB186_194.out
          have hnb46 := NB194_190.out
          have hnc46 := NB190_194.out
          have hcz47_0 : w31.cell? ⟨gb194, 0, none⟩ = some (.int .i64 t191) := (blk_cell BK194.out 0).trans rfl
          have hcz47_1 : w31.cell? ⟨gb194, 1, none⟩ = some (.int .i64 t192) := (blk_cell BK194.out 1).trans rfl
          have hfz47_0 := blk_frozen BK194.out 0
          have hfz47_1 := blk_frozen BK194.out 1
          go_wp2
          go_meet
          case rel => exact ⟨_, ((!(t195 == t191) || (!(t196 == t192)))), (by first | rfl | (simp; done) | (simp [*]; done)), H', ⟨by first | omega | exact Nat.le_refl _⟩, ⟨by (with_reducible repeat (first | refine blk_drewN ?_ _ | refine blk_drew ?_ | refine blk_alloc ?_ _)); refine blk_far ?_ NB185_198.out _; (with_reducible repeat (first | refine blk_drewN ?_ _ | refine blk_drew ?_ | refine blk_alloc ?_ _)); refine blk_far ?_ NB185_198.out _; (with_reducible repeat (first | refine blk_drewN ?_ _ | refine blk_drew ?_ | refine blk_alloc ?_ _)); exact BK185.out⟩, ⟨by (with_reducible repeat (first | refine blk_drewN ?_ _ | refine blk_drew ?_ | refine blk_alloc ?_ _)); refine blk_far ?_ NB186_198.out _; (with_reducible repeat (first | refine blk_drewN ?_ _ | refine blk_drew ?_ | refine blk_alloc ?_ _)); refine blk_far ?_ NB186_198.out _; (with_reducible repeat (first | refine blk_drewN ?_ _ | refine blk_drew ?_ | refine blk_alloc ?_ _)); exact BK186.out⟩, ⟨by (with_reducible repeat (first | refine blk_drewN ?_ _ | refine blk_drew ?_ | refine blk_alloc ?_ _)); refine blk_far ?_ NB190_198.out _; (with_reducible repeat (first | refine blk_drewN ?_ _ | refine blk_drew ?_ | refine blk_alloc ?_ _)); refine blk_far ?_ NB190_198.out _; (with_reducible repeat (first | refine blk_drewN ?_ _ | refine blk_drew ?_ | refine blk_alloc ?_ _)); exact BK190.out⟩, ⟨by (with_reducible repeat (first | refine blk_drewN ?_ _ | refine blk_drew ?_ | refine blk_alloc ?_ _)); refine blk_far ?_ NB194_198.out _; (with_reducible repeat (first | refine blk_drewN ?_ _ | refine blk_drew ?_ | refine blk_alloc ?_ _)); refine blk_far ?_ NB194_198.out _; (with_reducible repeat (first | refine blk_drewN ?_ _ | refine blk_drew ?_ | refine blk_alloc ?_ _)); exact BK194.out⟩, ⟨by (with_reducible repeat (first | refine blk_drewN ?_ _ | refine blk_drew ?_ | refine blk_alloc ?_ _)); refine blk_put (cs := #[.int .i64 t195, .int .i64 0]) ?_ 1 _ rfl; (with_reducible repeat (first | refine blk_drewN ?_ _ | refine blk_drew ?_ | refine blk_alloc ?_ _)); refine blk_put (cs := #[.int .i64 0, .int .i64 0]) ?_ 0 _ rfl; (with_reducible repeat (first | refine blk_drewN ?_ _ | refine blk_drew ?_ | refine blk_alloc ?_ _)); exact BK198.out⟩, ⟨by repeat (first | (with_reducible first | exact HB.out | apply below_alloc | apply pw_below_drewN | apply below_drew1 | refine below_set ?_ GE185.out | refine below_set ?_ GE186.out | refine below_set ?_ GE190.out | refine below_set ?_ GE194.out | refine below_set ?_ GE198.out) | exact HB.out)⟩⟩
    case rest =>
      clear HC8
      try clear c1
      try clear c2
      try clear p2
      try clear c3
      try clear c4
      try clear c12
      try clear c15
      try clear c17
      try clear c18
      try clear c24
      try clear c25
      try clear c26
      try clear c32
      try clear c33
      try clear c34
      try clear c35
      try clear c37
      try clear c37b0
      try clear c37b1
      try clear c37b2
      try clear c38
      try clear c38b0
      try clear c38b1
      try clear c38b2
      try clear c39
      try clear c40
      try clear c41
      try clear c42
      try clear c44
      try clear c45
      try clear c46
      try clear c47
      try clear hcz13_0
      try clear hcz13_1
      try clear hcz14_0
      try clear hcz14_1
      try clear hcz19_0
      try clear hcz19_1
      try clear hcz20_0
      try clear hcz20_1
      try clear hcz21_0
      try clear hcz21_1
      try clear hcz27_0
      try clear hcz27_1
      try clear hcz28_0
      try clear hcz28_1
      try clear hcz29_0
      try clear hcz29_1
      try clear hcz36_0
      try clear hcz36_1
      try clear hcz43_0
      try clear hcz43_1
      try clear hcz47_0
      try clear hcz47_1
      try clear hfz13_0
      try clear hfz13_1
      try clear hfz14_0
      try clear hfz14_1
      try clear hfz19_0
      try clear hfz19_1
      try clear hfz20_0
      try clear hfz20_1
      try clear hfz21_0
      try clear hfz21_1
      try clear hfz27_0
      try clear hfz27_1
      try clear hfz28_0
      try clear hfz28_1
      try clear hfz29_0
      try clear hfz29_1
      try clear hfz36_0
      try clear hfz36_1
      try clear hfz43_0
      try clear hfz43_1
      try clear hfz47_0
      try clear hfz47_1
      obtain ⟨kq, x52_7, rfl, HA, HJ7, BK185, BK186, BK190, BK194, BK198, HB⟩ := hcut
      cases kq with
      | zero => exact absurd HA.out (by simp [laws_FnOverlaps.j0])
      | succ kj7 =>
        have H := HA.out
        clear HA
        simp only [laws_FnOverlaps.j0] at H
        by_cases c48 : x52_7 = true
        · subst c48
          have H1 : (some false) = some r := by rw [if_pos rfl] at H; exact H
          clear H
          have H := H1
          clear H1
          obtain rfl := Option.some.inj H
          go_wp2
          go_ret
          exact ⟨by first | rfl | (simp [errW_none, errW_some] <;> rfl) | (simp [*, errW_none, errW_some] <;> rfl), by repeat (first | (with_reducible first | exact HB.out | apply below_alloc | apply pw_below_drewN | apply below_drew1 | refine below_set ?_ GE185.out | refine below_set ?_ GE186.out | refine below_set ?_ GE190.out | refine below_set ?_ GE194.out | refine below_set ?_ GE198.out) | exact HB.out)⟩
        · replace c48 := Bool.eq_false_iff.mpr c48
          subst c48
          have H1 : (if t193 = true then (laws_FnOverlaps.l0 kj7 (([t181, t182, t183, t184] : List Int)) 0 t181 t182 t183 t184 t191 t192) else (some (t191 == 0 && (t192 == 0)))) = some r := by rw [if_neg (show ¬ (false = true) by decide)] at H; exact H
          clear H
          have H := H1
          clear H1
          by_cases c49 : t193 = true
          · subst c49
            have H1 : (laws_FnOverlaps.l0 kj7 (([t181, t182, t183, t184] : List Int)) 0 t181 t182 t183 t184 t191 t192) = some r := by rw [if_pos rfl] at H; exact H
            clear H
            have H := H1
            clear H1
            obtain ⟨y199, hy199⟩ : ∃ y_ : List Int, y_ = (([t181, t182, t183, t184] : List Int)) := ⟨_, rfl⟩
            replace H : (laws_FnOverlaps.l0 kj7 y199 0 t181 t182 t183 t184 t191 t192) = some r := by first | (rw [hy199]; with_reducible exact H) | (have H2_ := (Option.bind_some _ _).symm.trans H; rw [hy199]; with_reducible exact H2_) | (have H2_ := (Option.bind_some _ _).symm.trans H; with_reducible exact H2_) | with_reducible exact H | (rw [hy199]; exact H) | exact H
            have Ny199 := Aside0.mk hy199
            clear hy199
            have H' := Aside0.mk H
            clear H
            have hnb50 := NB185_186.out
            have hnc50 := NB186_185.out
            have hnb51 := NB185_190.out
            have hnc51 := NB190_185.out
            have hnb52 := NB185_194.out
            have hnc52 := NB194_185.out
            have hnb53 := NB185_198.out
            have hnc53 := NB198_185.out
            have hcz54_0 : wc.cell? ⟨gb185, 0, none⟩ = some (.int .i64 t181) := (blk_cell BK185.out 0).trans rfl
            have hcz54_1 : wc.cell? ⟨gb185, 1, none⟩ = some (.int .i64 t182) := (blk_cell BK185.out 1).trans rfl
            have hfz54_0 := blk_frozen BK185.out 0
            have hfz54_1 := blk_frozen BK185.out 1
            have hnb55 := NB186_190.out
            have hnc55 := NB190_186.out
            have hnb56 := NB186_194.out
            have hnc56 := NB194_186.out
            have hnb57 := NB186_198.out
            have hnc57 := NB198_186.out
            have hcz58_0 : wc.cell? ⟨gb186, 0, none⟩ = some (.int .i64 t183) := (blk_cell BK186.out 0).trans rfl
            have hcz58_1 : wc.cell? ⟨gb186, 1, none⟩ = some (.int .i64 t184) := (blk_cell BK186.out 1).trans rfl
            have hfz58_0 := blk_frozen BK186.out 0
            have hfz58_1 := blk_frozen BK186.out 1
            go_wp2_with (first | ((with_reducible refine gate_dst (N := 66) rfl ?_); refine Kd.R_lit (Kd.int .i64) _ 2 ?hg (N := 66) ?hd (xs := ([t181, t182, t183, t184] : List Int)) (inner := [.int .i64 t181, .int .i64 t182, .int .i64 t183, .int .i64 t184]) (ok := fun _ => True) (okp := fun _ => True) ?hr ?hp (fun _ hk => hk) trivial (Below.refl _ _) (Nat.le_refl _) (by simp) ?_; (case hd => rfl); (case hg => rfl); (case hr => first | (go_simp; done) | (go_simp; rfl)); (case hp => exact (Reps.one (show Kd.M (Kd.int .i64) _ _ _ t181 [.int .i64 t181] from rfl) (Reps.one (show Kd.M (Kd.int .i64) _ _ _ t182 [.int .i64 t182] from rfl) (Reps.one (show Kd.M (Kd.int .i64) _ _ _ t183 [.int .i64 t183] from rfl) (Reps.one (show Kd.M (Kd.int .i64) _ _ _ t184 [.int .i64 t184] from rfl) (Reps.none _ _)))))); intro v200 w59 ho60 hb hg_ hnew_; clear hg_ hnew_; (first | rw [← Ny199.out] at ho60 | (simp only [Int.reduceToNat] at ho60; rw [← Ny199.out] at ho60)); have n0_ := Aside0.mk (Kd.R_lower ho60 (below_size (by repeat (first | (with_reducible first | exact HB.out | apply below_alloc | apply pw_below_drewN | apply below_drew1 | refine below_set ?_ GE185.out | refine below_set ?_ GE186.out | refine below_set ?_ GE190.out | refine below_set ?_ GE194.out | refine below_set ?_ GE198.out) | exact HB.out)))); have n1_ := Aside0.mk (blk_below (g := gb185) (o := .cells #[.int .i64 t181, .int .i64 t182] 37 (0, 0)) (by (with_reducible repeat (first | refine blk_drewN ?_ _ | refine blk_drew ?_ | refine blk_alloc ?_ _)); exact BK185.out) hb); have n2_ := Aside0.mk (blk_below (g := gb186) (o := .cells #[.int .i64 t183, .int .i64 t184] 37 (0, 0)) (by (with_reducible repeat (first | refine blk_drewN ?_ _ | refine blk_drew ?_ | refine blk_alloc ?_ _)); exact BK186.out) hb); have n3_ := Aside0.mk (blk_below (g := gb190) (o := .cells #[.int .i64 t187, .int .i64 t188] 37 (0, 0)) (by (with_reducible repeat (first | refine blk_drewN ?_ _ | refine blk_drew ?_ | refine blk_alloc ?_ _)); exact BK190.out) hb); have n4_ := Aside0.mk (blk_below (g := gb194) (o := .cells #[.int .i64 t191, .int .i64 t192] 37 (0, 0)) (by (with_reducible repeat (first | refine blk_drewN ?_ _ | refine blk_drew ?_ | refine blk_alloc ?_ _)); exact BK194.out) hb); have n5_ := Aside0.mk (blk_below (g := gb198) (o := .cells #[.int .i64 t195, .int .i64 t196] 37 (0, 0)) (by (with_reducible repeat (first | refine blk_drewN ?_ _ | refine blk_drew ?_ | refine blk_alloc ?_ _)); exact BK198.out) hb); have n6_ := Aside0.mk (below_step (by repeat (first | (with_reducible first | exact HB.out | apply below_alloc | apply pw_below_drewN | apply below_drew1 | refine below_set ?_ GE185.out | refine below_set ?_ GE186.out | refine below_set ?_ GE190.out | refine below_set ?_ GE194.out | refine below_set ?_ GE198.out) | exact HB.out)) hb); clear BK185; clear BK186; clear BK190; clear BK194; clear BK198; clear HB; have HO201 := n0_; have BK185 := n1_; have BK186 := n2_; have BK190 := n3_; have BK194 := n4_; have BK198 := n5_; have HB := n6_; clear n0_ n1_ n2_ n3_ n4_ n5_ n6_; clear hb ho60))
            go_loopg [12] kj7 (fun kq v12 w' => ∃ (x12_2 : Int), v12 = .int .i64 x12_2 ∧ Aside0 (laws_FnOverlaps.l0 kq y199 x12_2 t181 t182 t183 t184 t191 t192 = some r) ∧ Aside0 (kq ≤ kj7) ∧ Aside0 (Kd.R (Kd.int .i64) 2 w' w.heap.size (fun _ => True) v200 y199) ∧ Aside0 (w'.heap[gb185]? = some (.cells #[.int .i64 t181, .int .i64 t182] 37 (0, 0))) ∧ Aside0 (w'.heap[gb186]? = some (.cells #[.int .i64 t183, .int .i64 t184] 37 (0, 0))) ∧ Aside0 (w'.heap[gb190]? = some (.cells #[.int .i64 t187, .int .i64 t188] 37 (0, 0))) ∧ Aside0 (w'.heap[gb194]? = some (.cells #[.int .i64 t191, .int .i64 t192] 37 (0, 0))) ∧ Aside0 (w'.heap[gb198]? = some (.cells #[.int .i64 t195, .int .i64 t196] 37 (0, 0))) ∧ Aside0 (Below w.heap.size w w'))
            case atStart => exact ⟨(0), (by first | rfl | (simp; done) | (simp [*]; done)), H', ⟨Nat.le_refl _⟩, ⟨by (with_reducible repeat (first | apply Kd.R_alloc | apply Kd.R_drewN | apply Kd.R_drew)); exact HO201.out⟩, ⟨by (with_reducible repeat (first | refine blk_drewN ?_ _ | refine blk_drew ?_ | refine blk_alloc ?_ _)); exact BK185.out⟩, ⟨by (with_reducible repeat (first | refine blk_drewN ?_ _ | refine blk_drew ?_ | refine blk_alloc ?_ _)); exact BK186.out⟩, ⟨by (with_reducible repeat (first | refine blk_drewN ?_ _ | refine blk_drew ?_ | refine blk_alloc ?_ _)); exact BK190.out⟩, ⟨by (with_reducible repeat (first | refine blk_drewN ?_ _ | refine blk_drew ?_ | refine blk_alloc ?_ _)); exact BK194.out⟩, ⟨by (with_reducible repeat (first | refine blk_drewN ?_ _ | refine blk_drew ?_ | refine blk_alloc ?_ _)); exact BK198.out⟩, ⟨by repeat (first | (with_reducible first | exact HB.out | apply below_alloc | apply pw_below_drewN | apply below_drew1 | refine below_set ?_ GE185.out | refine below_set ?_ GE186.out | refine below_set ?_ GE190.out | refine below_set ?_ GE194.out | refine below_set ?_ GE198.out) | exact HB.out)⟩⟩
            case round =>
              clear H'
              try clear c1
              try clear c2
              try clear p2
              try clear c3
              try clear c4
              try clear c5
              try clear c12
              try clear c15
              try clear c17
              try clear c18
              try clear c24
              try clear c25
              try clear c26
              try clear c32
              try clear c33
              try clear c34
              try clear c35
              try clear c37
              try clear c37b0
              try clear c37b1
              try clear c37b2
              try clear c38
              try clear c38b0
              try clear c38b1
              try clear c38b2
              try clear c39
              try clear c40
              try clear c41
              try clear c42
              try clear c44
              try clear c45
              try clear c46
              try clear c47
              try clear c48
              try clear c49
              try clear c50
              try clear c51
              try clear c52
              try clear c53
              try clear c55
              try clear c56
              try clear c57
              try clear hcz13_0
              try clear hcz13_1
              try clear hcz14_0
              try clear hcz14_1
              try clear hcz19_0
              try clear hcz19_1
              try clear hcz20_0
              try clear hcz20_1
              try clear hcz21_0
              try clear hcz21_1
              try clear hcz27_0
              try clear hcz27_1
              try clear hcz28_0
              try clear hcz28_1
              try clear hcz29_0
              try clear hcz29_1
              try clear hcz36_0
              try clear hcz36_1
              try clear hcz43_0
              try clear hcz43_1
              try clear hcz47_0
              try clear hcz47_1
              try clear hcz54_0
              try clear hcz54_1
              try clear hcz58_0
              try clear hcz58_1
              try clear hfz13_0
              try clear hfz13_1
              try clear hfz14_0
              try clear hfz14_1
              try clear hfz19_0
              try clear hfz19_1
              try clear hfz20_0
              try clear hfz20_1
              try clear hfz21_0
              try clear hfz21_1
              try clear hfz27_0
              try clear hfz27_1
              try clear hfz28_0
              try clear hfz28_1
              try clear hfz29_0
              try clear hfz29_1
              try clear hfz36_0
              try clear hfz36_1
              try clear hfz43_0
              try clear hfz43_1
              try clear hfz47_0
              try clear hfz47_1
              try clear hfz54_0
              try clear hfz54_1
              try clear hfz58_0
              try clear hfz58_1
              try clear p2
              obtain ⟨x12_2, rfl, HA, HK2, HO_11, BK185, BK186, BK190, BK194, BK198, HB⟩ := hrel
              cases gk with
              | zero => exact absurd HA.out (by simp [laws_FnOverlaps.l0])
              | succ k2 =>
                have H := HA.out
                clear HA
                simp only [laws_FnOverlaps.l0] at H
                by_cases c61 : x12_2 < (y199.length : Int)
                · rw [if_pos c61] at H
                  have c61b0 : decide (x12_2 < (y199.length : Int)) = true := decide_eq_true c61
                  clear c61
                  by_cases c62 : 0 ≤ x12_2
                  · rw [if_pos c62] at H
                    have c62b0 : decide (0 ≤ x12_2) = true := decide_eq_true c62
                    clear c62
                    have H' := Aside0.mk H
                    clear H
                    obtain ⟨Ao63, co63, eo63⟩ := Kd.R_slice HO_11.out
                    subst eo63
                    have p202 : 0 ≤ (x12_2 : Int) := of_decide_eq_true (by first | (with_reducible assumption) | assumption)
                    have q202 : x12_2 < (y199.length : Int) := of_decide_eq_true (by first | (with_reducible assumption) | assumption)
                    obtain ⟨ad202, e202, hx202_0⟩ := Kd.at_int (Kd.R_reads' HO_11.out).2.2 x12_2 p202 q202
                    cases e202
                    replace p202 := eq_true p202
                    replace q202 := eq_true q202
                    go_wp2
                    go_loopg [13] k2 (fun kq v13 w' => ∃ (x13_3 : Int), v13 = .int .i64 x13_3 ∧ Aside0 (laws_FnOverlaps.l1 kq y199 x12_2 x13_3 t181 t182 t183 t184 t191 t192 = some r) ∧ Aside0 (kq ≤ k2) ∧ Aside0 (Kd.R (Kd.int .i64) 2 w' w.heap.size (fun _ => True) (.slice (some ad202) y199.length co63) y199) ∧ Aside0 (w'.heap[gb185]? = some (.cells #[.int .i64 t181, .int .i64 t182] 37 (0, 0))) ∧ Aside0 (w'.heap[gb186]? = some (.cells #[.int .i64 t183, .int .i64 t184] 37 (0, 0))) ∧ Aside0 (w'.heap[gb190]? = some (.cells #[.int .i64 t187, .int .i64 t188] 37 (0, 0))) ∧ Aside0 (w'.heap[gb194]? = some (.cells #[.int .i64 t191, .int .i64 t192] 37 (0, 0))) ∧ Aside0 (w'.heap[gb198]? = some (.cells #[.int .i64 t195, .int .i64 t196] 37 (0, 0))) ∧ Aside0 (Below w.heap.size w w'))
                    case atStart => exact ⟨(wrap64 ((rd y199 x12_2) - 1)), (by first | rfl | (simp; done) | (simp [*]; done)), H', ⟨Nat.le_refl _⟩, ⟨by (with_reducible repeat (first | apply Kd.R_alloc | apply Kd.R_drewN | apply Kd.R_drew)); exact HO_11.out⟩, ⟨by (with_reducible repeat (first | refine blk_drewN ?_ _ | refine blk_drew ?_ | refine blk_alloc ?_ _)); exact BK185.out⟩, ⟨by (with_reducible repeat (first | refine blk_drewN ?_ _ | refine blk_drew ?_ | refine blk_alloc ?_ _)); exact BK186.out⟩, ⟨by (with_reducible repeat (first | refine blk_drewN ?_ _ | refine blk_drew ?_ | refine blk_alloc ?_ _)); exact BK190.out⟩, ⟨by (with_reducible repeat (first | refine blk_drewN ?_ _ | refine blk_drew ?_ | refine blk_alloc ?_ _)); exact BK194.out⟩, ⟨by (with_reducible repeat (first | refine blk_drewN ?_ _ | refine blk_drew ?_ | refine blk_alloc ?_ _)); exact BK198.out⟩, ⟨by repeat (first | (with_reducible first | exact HB.out | apply below_alloc | apply pw_below_drewN | apply below_drew1 | refine below_set ?_ GE185.out | refine below_set ?_ GE186.out | refine below_set ?_ GE190.out | refine below_set ?_ GE194.out | refine below_set ?_ GE198.out) | exact HB.out)⟩⟩
                    case round =>
                      clear H'
                      try clear c1
                      try clear c2
                      try clear p2
                      try clear q2
                      try clear hx2
                      try clear c3
                      try clear c4
                      try clear c5
                      try clear c6
                      try clear p6
                      try clear c12
                      try clear c15
                      try clear c17
                      try clear c18
                      try clear p20
                      try clear q20
                      try clear hx20
                      try clear c24
                      try clear c25
                      try clear c26
                      try clear c32
                      try clear c33
                      try clear c34
                      try clear c35
                      try clear c37
                      try clear c37b0
                      try clear c37b1
                      try clear c37b2
                      try clear c38
                      try clear c38b0
                      try clear c38b1
                      try clear c38b2
                      try clear c39
                      try clear c40
                      try clear c41
                      try clear c42
                      try clear c44
                      try clear c45
                      try clear c46
                      try clear c47
                      try clear c48
                      try clear c49
                      try clear c50
                      try clear c51
                      try clear c52
                      try clear c53
                      try clear c55
                      try clear c56
                      try clear c57
                      try clear c61
                      try clear c61b0
                      try clear c62
                      try clear c62b0
                      try clear hcz13_0
                      try clear hcz13_1
                      try clear hcz14_0
                      try clear hcz14_1
                      try clear hcz19_0
                      try clear hcz19_1
                      try clear hcz20_0
                      try clear hcz20_1
                      try clear hcz21_0
                      try clear hcz21_1
                      try clear hcz27_0
                      try clear hcz27_1
                      try clear hcz28_0
                      try clear hcz28_1
                      try clear hcz29_0
                      try clear hcz29_1
                      try clear hcz36_0
                      try clear hcz36_1
                      try clear hcz43_0
                      try clear hcz43_1
                      try clear hcz47_0
                      try clear hcz47_1
                      try clear hcz54_0
                      try clear hcz54_1
                      try clear hcz58_0
                      try clear hcz58_1
                      try clear hfz13_0
                      try clear hfz13_1
                      try clear hfz14_0
                      try clear hfz14_1
                      try clear hfz19_0
                      try clear hfz19_1
                      try clear hfz20_0
                      try clear hfz20_1
                      try clear hfz21_0
                      try clear hfz21_1
                      try clear hfz27_0
                      try clear hfz27_1
                      try clear hfz28_0
                      try clear hfz28_1
                      try clear hfz29_0
                      try clear hfz29_1
                      try clear hfz36_0
                      try clear hfz36_1
                      try clear hfz43_0
                      try clear hfz43_1
                      try clear hfz47_0
                      try clear hfz47_1
                      try clear hfz54_0
                      try clear hfz54_1
                      try clear hfz58_0
                      try clear hfz58_1
                      try clear hx202_0
                      try clear p2
                      try clear p202
                      try clear q202
                      obtain ⟨x13_3, rfl, HA, HK3, HO_11, BK185, BK186, BK190, BK194, BK198, HB⟩ := hrel
                      cases gk with
                      | zero => exact absurd HA.out (by simp [laws_FnOverlaps.l1])
                      | succ k3 =>
                        have H := HA.out
                        clear HA
                        simp only [laws_FnOverlaps.l1] at H
                        by_cases c64 : 0 ≤ x12_2
                        · rw [if_pos c64] at H
                          have c64b0 : decide (0 ≤ x12_2) = true := decide_eq_true c64
                          clear c64
                          by_cases c65 : x12_2 < (y199.length : Int)
                          · rw [if_pos c65] at H
                            have c65b0 : decide (x12_2 < (y199.length : Int)) = true := decide_eq_true c65
                            clear c65
                            by_cases c66 : x13_3 ≤ (rd y199 x12_2)
                            · rw [if_pos c66] at H
                              have c66b0 : decide (x13_3 ≤ (rd y199 x12_2)) = true := decide_eq_true c66
                              clear c66
                              by_cases c67 : t181 ≤ x13_3
                              · rw [if_pos c67] at H
                                have c67b0 : decide (t181 ≤ x13_3) = true := decide_eq_true c67
                                clear c67
                                by_cases c68 : x13_3 < t182
                                · rw [if_pos c68] at H
                                  have c68b0 : decide (x13_3 < t182) = true := decide_eq_true c68
                                  clear c68
                                  by_cases c69 : t183 ≤ x13_3
                                  · rw [if_pos c69] at H
                                    have c69b0 : decide (t183 ≤ x13_3) = true := decide_eq_true c69
                                    clear c69
                                    by_cases c70 : t191 ≤ x13_3
                                    · rw [if_pos c70] at H
                                      have c70b0 : decide (t191 ≤ x13_3) = true := decide_eq_true c70
                                      clear c70
                                      by_cases c71 : ((decide (x13_3 < t184)) != (decide (x13_3 < t192))) = true
                                      · rw [if_pos c71] at H
                                        have c71b0 : ((decide (x13_3 < t184)) != (decide (x13_3 < t192))) = true := c71
                                        (try (have c71b1 : decide ((decide (x13_3 < t184)) = (decide (x13_3 < t192))) = false := by simpa using c71))
                                        (try (have c71b2 : ((decide (x13_3 < t184)) == (decide (x13_3 < t192))) = false := by simpa using c71))
                                        (try (have c71b3 : ¬ ((decide (x13_3 < t184)) = (decide (x13_3 < t192))) := by simpa using c71))
                                        clear c71
                                        obtain rfl := Option.some.inj H
                                        have p203 : 0 ≤ (x12_2 : Int) := of_decide_eq_true (by first | (with_reducible assumption) | assumption)
                                        have q203 : x12_2 < (y199.length : Int) := of_decide_eq_true (by first | (with_reducible assumption) | assumption)
                                        obtain ⟨ad203, e203, hx203_0⟩ := Kd.at_int (Kd.R_reads' HO_11.out).2.2 x12_2 p203 q203
                                        obtain rfl : ad202 = ad203 := (by injection e203)
                                        replace p203 := eq_true p203
                                        replace q203 := eq_true q203
                                        have hnb72 := NB185_186.out
                                        have hnc72 := NB186_185.out
                                        have hnb73 := NB185_190.out
                                        have hnc73 := NB190_185.out
                                        have hnb74 := NB185_194.out
                                        have hnc74 := NB194_185.out
                                        have hnb75 := NB185_198.out
                                        have hnc75 := NB198_185.out
                                        have hcz76_0 : wr.cell? ⟨gb185, 0, none⟩ = some (.int .i64 t181) := (blk_cell BK185.out 0).trans rfl
                                        have hcz76_1 : wr.cell? ⟨gb185, 1, none⟩ = some (.int .i64 t182) := (blk_cell BK185.out 1).trans rfl
                                        have hfz76_0 := blk_frozen BK185.out 0
                                        have hfz76_1 := blk_frozen BK185.out 1
                                        have hnb77 := NB186_190.out
                                        have hnc77 := NB190_186.out
                                        have hnb78 := NB186_194.out
                                        have hnc78 := NB194_186.out
                                        have hnb79 := NB186_198.out
                                        have hnc79 := NB198_186.out
                                        have hcz80_0 : wr.cell? ⟨gb186, 0, none⟩ = some (.int .i64 t183) := (blk_cell BK186.out 0).trans rfl
                                        have hcz80_1 : wr.cell? ⟨gb186, 1, none⟩ = some (.int .i64 t184) := (blk_cell BK186.out 1).trans rfl
                                        have hfz80_0 := blk_frozen BK186.out 0
                                        have hfz80_1 := blk_frozen BK186.out 1
                                        have hnb81 := NB194_190.out
                                        have hnc81 := NB190_194.out
                                        have hnb82 := NB194_198.out
                                        have hnc82 := NB198_194.out
                                        have hcz83_0 : wr.cell? ⟨gb194, 0, none⟩ = some (.int .i64 t191) := (blk_cell BK194.out 0).trans rfl
                                        have hcz83_1 : wr.cell? ⟨gb194, 1, none⟩ = some (.int .i64 t192) := (blk_cell BK194.out 1).trans rfl
                                        have hfz83_0 := blk_frozen BK194.out 0
                                        have hfz83_1 := blk_frozen BK194.out 1
                                        go_wp2
                                        go_ret
                                        exact ⟨by first | rfl | (simp [errW_none, errW_some] <;> rfl) | (simp [*, errW_none, errW_some] <;> rfl), by repeat (first | (with_reducible first | exact HB.out | apply below_alloc | apply pw_below_drewN | apply below_drew1 | refine below_set ?_ GE185.out | refine below_set ?_ GE186.out | refine below_set ?_ GE190.out | refine below_set ?_ GE194.out | refine below_set ?_ GE198.out) | exact HB.out)⟩
                                      · rw [if_neg c71] at H
                                        have c71b0 : ((decide (x13_3 < t184)) != (decide (x13_3 < t192))) = false := by simpa using c71
                                        (try (have c71b1 : decide ((decide (x13_3 < t184)) = (decide (x13_3 < t192))) = true := by simpa using c71))
                                        (try (have c71b2 : ((decide (x13_3 < t184)) == (decide (x13_3 < t192))) = true := by simpa using c71))
                                        clear c71
                                        have H' := Aside0.mk H
                                        clear H
                                        have p203 : 0 ≤ (x12_2 : Int) := of_decide_eq_true (by first | (with_reducible assumption) | assumption)
                                        have q203 : x12_2 < (y199.length : Int) := of_decide_eq_true (by first | (with_reducible assumption) | assumption)
                                        obtain ⟨ad203, e203, hx203_0⟩ := Kd.at_int (Kd.R_reads' HO_11.out).2.2 x12_2 p203 q203
                                        obtain rfl : ad202 = ad203 := (by injection e203)
                                        replace p203 := eq_true p203
                                        replace q203 := eq_true q203
                                        have hnb84 := NB185_186.out
                                        have hnc84 := NB186_185.out
                                        have hnb85 := NB185_190.out
                                        have hnc85 := NB190_185.out
                                        have hnb86 := NB185_194.out
                                        have hnc86 := NB194_185.out
                                        have hnb87 := NB185_198.out
                                        have hnc87 := NB198_185.out
                                        have hcz88_0 : wr.cell? ⟨gb185, 0, none⟩ = some (.int .i64 t181) := (blk_cell BK185.out 0).trans rfl
                                        have hcz88_1 : wr.cell? ⟨gb185, 1, none⟩ = some (.int .i64 t182) := (blk_cell BK185.out 1).trans rfl
                                        have hfz88_0 := blk_frozen BK185.out 0
                                        have hfz88_1 := blk_frozen BK185.out 1
                                        have hnb89 := NB186_190.out
                                        have hnc89 := NB190_186.out
                                        have hnb90 := NB186_194.out
                                        have hnc90 := NB194_186.out
                                        have hnb91 := NB186_198.out
                                        have hnc91 := NB198_186.out
                                        have hcz92_0 : wr.cell? ⟨gb186, 0, none⟩ = some (.int .i64 t183) := (blk_cell BK186.out 0).trans rfl
                                        have hcz92_1 : wr.cell? ⟨gb186, 1, none⟩ = some (.int .i64 t184) := (blk_cell BK186.out 1).trans rfl
                                        have hfz92_0 := blk_frozen BK186.out 0
                                        have hfz92_1 := blk_frozen BK186.out 1
                                        have hnb93 := NB194_190.out
                                        have hnc93 := NB190_194.out
                                        have hnb94 := NB194_198.out
                                        have hnc94 := NB198_194.out
                                        have hcz95_0 : wr.cell? ⟨gb194, 0, none⟩ = some (.int .i64 t191) := (blk_cell BK194.out 0).trans rfl
                                        have hcz95_1 : wr.cell? ⟨gb194, 1, none⟩ = some (.int .i64 t192) := (blk_cell BK194.out 1).trans rfl
                                        have hfz95_0 := blk_frozen BK194.out 0
                                        have hfz95_1 := blk_frozen BK194.out 1
                                        go_wp2
                                        go_roundg k3
                                        case measure => have := HJ7.out; have := HK2.out; have := HK3.out; omega
                                        case rel => exact ⟨(wrap64 (x13_3 + 1)), (by first | rfl | (simp; done) | (simp [*]; done)), H', ⟨by have := HJ7.out; have := HK2.out; have := HK3.out; omega⟩, ⟨by (with_reducible repeat (first | apply Kd.R_alloc | apply Kd.R_drewN | apply Kd.R_drew)); exact HO_11.out⟩, ⟨by (with_reducible repeat (first | refine blk_drewN ?_ _ | refine blk_drew ?_ | refine blk_alloc ?_ _)); exact BK185.out⟩, ⟨by (with_reducible repeat (first | refine blk_drewN ?_ _ | refine blk_drew ?_ | refine blk_alloc ?_ _)); exact BK186.out⟩, ⟨by (with_reducible repeat (first | refine blk_drewN ?_ _ | refine blk_drew ?_ | refine blk_alloc ?_ _)); exact BK190.out⟩, ⟨by (with_reducible repeat (first | refine blk_drewN ?_ _ | refine blk_drew ?_ | refine blk_alloc ?_ _)); exact BK194.out⟩, ⟨by (with_reducible repeat (first | refine blk_drewN ?_ _ | refine blk_drew ?_ | refine blk_alloc ?_ _)); exact BK198.out⟩, ⟨by repeat (first | (with_reducible first | exact HB.out | apply below_alloc | apply pw_below_drewN | apply below_drew1 | refine below_set ?_ GE185.out | refine below_set ?_ GE186.out | refine below_set ?_ GE190.out | refine below_set ?_ GE194.out | refine below_set ?_ GE198.out) | exact HB.out)⟩⟩
                                    · rw [if_neg c70] at H
                                      have c70b0 : decide (t191 ≤ x13_3) = false := decide_eq_false c70
                                      clear c70
                                      by_cases c96 : ((decide (x13_3 < t184)) != false) = true
                                      · rw [if_pos c96] at H
                                        have c96b0 : ((decide (x13_3 < t184)) != false) = true := c96
                                        (try (have c96b1 : decide ((decide (x13_3 < t184)) = false) = false := by simpa using c96))
                                        (try (have c96b2 : ((decide (x13_3 < t184)) == false) = false := by simpa using c96))
                                        (try (have c96b3 : ¬ ((decide (x13_3 < t184)) = false) := by simpa using c96))
                                        clear c96
                                        obtain rfl := Option.some.inj H
                                        have p203 : 0 ≤ (x12_2 : Int) := of_decide_eq_true (by first | (with_reducible assumption) | assumption)
                                        have q203 : x12_2 < (y199.length : Int) := of_decide_eq_true (by first | (with_reducible assumption) | assumption)
                                        obtain ⟨ad203, e203, hx203_0⟩ := Kd.at_int (Kd.R_reads' HO_11.out).2.2 x12_2 p203 q203
                                        obtain rfl : ad202 = ad203 := (by injection e203)
                                        replace p203 := eq_true p203
                                        replace q203 := eq_true q203
                                        have hnb97 := NB185_186.out
                                        have hnc97 := NB186_185.out
                                        have hnb98 := NB185_190.out
                                        have hnc98 := NB190_185.out
                                        have hnb99 := NB185_194.out
                                        have hnc99 := NB194_185.out
                                        have hnb100 := NB185_198.out
                                        have hnc100 := NB198_185.out
                                        have hcz101_0 : wr.cell? ⟨gb185, 0, none⟩ = some (.int .i64 t181) := (blk_cell BK185.out 0).trans rfl
                                        have hcz101_1 : wr.cell? ⟨gb185, 1, none⟩ = some (.int .i64 t182) := (blk_cell BK185.out 1).trans rfl
                                        have hfz101_0 := blk_frozen BK185.out 0
                                        have hfz101_1 := blk_frozen BK185.out 1
                                        have hnb102 := NB186_190.out
                                        have hnc102 := NB190_186.out
                                        have hnb103 := NB186_194.out
                                        have hnc103 := NB194_186.out
                                        have hnb104 := NB186_198.out
                                        have hnc104 := NB198_186.out
                                        have hcz105_0 : wr.cell? ⟨gb186, 0, none⟩ = some (.int .i64 t183) := (blk_cell BK186.out 0).trans rfl
                                        have hcz105_1 : wr.cell? ⟨gb186, 1, none⟩ = some (.int .i64 t184) := (blk_cell BK186.out 1).trans rfl
                                        have hfz105_0 := blk_frozen BK186.out 0
                                        have hfz105_1 := blk_frozen BK186.out 1
                                        have hnb106 := NB194_190.out
                                        have hnc106 := NB190_194.out
                                        have hnb107 := NB194_198.out
                                        have hnc107 := NB198_194.out
                                        have hcz108_0 : wr.cell? ⟨gb194, 0, none⟩ = some (.int .i64 t191) := (blk_cell BK194.out 0).trans rfl
                                        have hcz108_1 : wr.cell? ⟨gb194, 1, none⟩ = some (.int .i64 t192) := (blk_cell BK194.out 1).trans rfl
                                        have hfz108_0 := blk_frozen BK194.out 0
                                        have hfz108_1 := blk_frozen BK194.out 1
                                        go_wp2
                                        go_ret
                                        exact ⟨by first | rfl | (simp [errW_none, errW_some] <;> rfl) | (simp [*, errW_none, errW_some] <;> rfl), by repeat (first | (with_reducible first | exact HB.out | apply below_alloc | apply pw_below_drewN | apply below_drew1 | refine below_set ?_ GE185.out | refine below_set ?_ GE186.out | refine below_set ?_ GE190.out | refine below_set ?_ GE194.out | refine below_set ?_ GE198.out) | exact HB.out)⟩
                                      · rw [if_neg c96] at H
                                        have c96b0 : ((decide (x13_3 < t184)) != false) = false := by simpa using c96
                                        (try (have c96b1 : decide ((decide (x13_3 < t184)) = false) = true := by simpa using c96))
                                        (try (have c96b2 : ((decide (x13_3 < t184)) == false) = true := by simpa using c96))
                                        clear c96
                                        have H' := Aside0.mk H
                                        clear H
                                        have p203 : 0 ≤ (x12_2 : Int) := of_decide_eq_true (by first | (with_reducible assumption) | assumption)
                                        have q203 : x12_2 < (y199.length : Int) := of_decide_eq_true (by first | (with_reducible assumption) | assumption)
                                        obtain ⟨ad203, e203, hx203_0⟩ := Kd.at_int (Kd.R_reads' HO_11.out).2.2 x12_2 p203 q203
                                        obtain rfl : ad202 = ad203 := (by injection e203)
                                        replace p203 := eq_true p203
                                        replace q203 := eq_true q203
                                        have hnb109 := NB185_186.out
                                        have hnc109 := NB186_185.out
                                        have hnb110 := NB185_190.out
                                        have hnc110 := NB190_185.out
                                        have hnb111 := NB185_194.out
                                        have hnc111 := NB194_185.out
                                        have hnb112 := NB185_198.out
                                        have hnc112 := NB198_185.out
                                        have hcz113_0 : wr.cell? ⟨gb185, 0, none⟩ = some (.int .i64 t181) := (blk_cell BK185.out 0).trans rfl
                                        have hcz113_1 : wr.cell? ⟨gb185, 1, none⟩ = some (.int .i64 t182) := (blk_cell BK185.out 1).trans rfl
                                        have hfz113_0 := blk_frozen BK185.out 0
                                        have hfz113_1 := blk_frozen BK185.out 1
                                        have hnb114 := NB186_190.out
                                        have hnc114 := NB190_186.out
                                        have hnb115 := NB186_194.out
                                        have hnc115 := NB194_186.out
                                        have hnb116 := NB186_198.out
                                        have hnc116 := NB198_186.out
                                        have hcz117_0 : wr.cell? ⟨gb186, 0, none⟩ = some (.int .i64 t183) := (blk_cell BK186.out 0).trans rfl
                                        have hcz117_1 : wr.cell? ⟨gb186, 1, none⟩ = some (.int .i64 t184) := (blk_cell BK186.out 1).trans rfl
                                        have hfz117_0 := blk_frozen BK186.out 0
                                        have hfz117_1 := blk_frozen BK186.out 1
                                        have hnb118 := NB194_190.out
                                        have hnc118 := NB190_194.out
                                        have hnb119 := NB194_198.out
                                        have hnc119 := NB198_194.out
                                        have hcz120_0 : wr.cell? ⟨gb194, 0, none⟩ = some (.int .i64 t191) := (blk_cell BK194.out 0).trans rfl
                                        have hcz120_1 : wr.cell? ⟨gb194, 1, none⟩ = some (.int .i64 t192) := (blk_cell BK194.out 1).trans rfl
                                        have hfz120_0 := blk_frozen BK194.out 0
                                        have hfz120_1 := blk_frozen BK194.out 1
                                        go_wp2
                                        go_roundg k3
                                        case measure => have := HJ7.out; have := HK2.out; have := HK3.out; omega
                                        case rel => exact ⟨(wrap64 (x13_3 + 1)), (by first | rfl | (simp; done) | (simp [*]; done)), H', ⟨by have := HJ7.out; have := HK2.out; have := HK3.out; omega⟩, ⟨by (with_reducible repeat (first | apply Kd.R_alloc | apply Kd.R_drewN | apply Kd.R_drew)); exact HO_11.out⟩, ⟨by (with_reducible repeat (first | refine blk_drewN ?_ _ | refine blk_drew ?_ | refine blk_alloc ?_ _)); exact BK185.out⟩, ⟨by (with_reducible repeat (first | refine blk_drewN ?_ _ | refine blk_drew ?_ | refine blk_alloc ?_ _)); exact BK186.out⟩, ⟨by (with_reducible repeat (first | refine blk_drewN ?_ _ | refine blk_drew ?_ | refine blk_alloc ?_ _)); exact BK190.out⟩, ⟨by (with_reducible repeat (first | refine blk_drewN ?_ _ | refine blk_drew ?_ | refine blk_alloc ?_ _)); exact BK194.out⟩, ⟨by (with_reducible repeat (first | refine blk_drewN ?_ _ | refine blk_drew ?_ | refine blk_alloc ?_ _)); exact BK198.out⟩, ⟨by repeat (first | (with_reducible first | exact HB.out | apply below_alloc | apply pw_below_drewN | apply below_drew1 | refine below_set ?_ GE185.out | refine below_set ?_ GE186.out | refine below_set ?_ GE190.out | refine below_set ?_ GE194.out | refine below_set ?_ GE198.out) | exact HB.out)⟩⟩
                                  · rw [if_neg c69] at H
                                    have c69b0 : decide (t183 ≤ x13_3) = false := decide_eq_false c69
                                    clear c69
                                    by_cases c121 : t191 ≤ x13_3
                                    · rw [if_pos c121] at H
                                      have c121b0 : decide (t191 ≤ x13_3) = true := decide_eq_true c121
                                      clear c121
                                      by_cases c122 : (false != (decide (x13_3 < t192))) = true
                                      · rw [if_pos c122] at H
                                        have c122b0 : (false != (decide (x13_3 < t192))) = true := c122
                                        (try (have c122b1 : decide (false = (decide (x13_3 < t192))) = false := by simpa using c122))
                                        (try (have c122b2 : (false == (decide (x13_3 < t192))) = false := by simpa using c122))
                                        (try (have c122b3 : ¬ (false = (decide (x13_3 < t192))) := by simpa using c122))
                                        clear c122
                                        obtain rfl := Option.some.inj H
                                        have p203 : 0 ≤ (x12_2 : Int) := of_decide_eq_true (by first | (with_reducible assumption) | assumption)
                                        have q203 : x12_2 < (y199.length : Int) := of_decide_eq_true (by first | (with_reducible assumption) | assumption)
                                        obtain ⟨ad203, e203, hx203_0⟩ := Kd.at_int (Kd.R_reads' HO_11.out).2.2 x12_2 p203 q203
                                        obtain rfl : ad202 = ad203 := (by injection e203)
                                        replace p203 := eq_true p203
                                        replace q203 := eq_true q203
                                        have hnb123 := NB185_186.out
                                        have hnc123 := NB186_185.out
                                        have hnb124 := NB185_190.out
                                        have hnc124 := NB190_185.out
                                        have hnb125 := NB185_194.out
                                        have hnc125 := NB194_185.out
                                        have hnb126 := NB185_198.out
                                        have hnc126 := NB198_185.out
                                        have hcz127_0 : wr.cell? ⟨gb185, 0, none⟩ = some (.int .i64 t181) := (blk_cell BK185.out 0).trans rfl
                                        have hcz127_1 : wr.cell? ⟨gb185, 1, none⟩ = some (.int .i64 t182) := (blk_cell BK185.out 1).trans rfl
                                        have hfz127_0 := blk_frozen BK185.out 0
                                        have hfz127_1 := blk_frozen BK185.out 1
                                        have hnb128 := NB186_190.out
                                        have hnc128 := NB190_186.out
                                        have hnb129 := NB186_194.out
                                        have hnc129 := NB194_186.out
                                        have hnb130 := NB186_198.out
                                        have hnc130 := NB198_186.out
                                        have hcz131_0 : wr.cell? ⟨gb186, 0, none⟩ = some (.int .i64 t183) := (blk_cell BK186.out 0).trans rfl
                                        have hcz131_1 : wr.cell? ⟨gb186, 1, none⟩ = some (.int .i64 t184) := (blk_cell BK186.out 1).trans rfl
                                        have hfz131_0 := blk_frozen BK186.out 0
                                        have hfz131_1 := blk_frozen BK186.out 1
                                        have hnb132 := NB194_190.out
                                        have hnc132 := NB190_194.out
                                        have hnb133 := NB194_198.out
                                        have hnc133 := NB198_194.out
                                        have hcz134_0 : wr.cell? ⟨gb194, 0, none⟩ = some (.int .i64 t191) := (blk_cell BK194.out 0).trans rfl
                                        have hcz134_1 : wr.cell? ⟨gb194, 1, none⟩ = some (.int .i64 t192) := (blk_cell BK194.out 1).trans rfl
                                        have hfz134_0 := blk_frozen BK194.out 0
                                        have hfz134_1 := blk_frozen BK194.out 1
                                        go_wp2
                                        go_ret
                                        exact ⟨by first | rfl | (simp [errW_none, errW_some] <;> rfl) | (simp [*, errW_none, errW_some] <;> rfl), by repeat (first | (with_reducible first | exact HB.out | apply below_alloc | apply pw_below_drewN | apply below_drew1 | refine below_set ?_ GE185.out | refine below_set ?_ GE186.out | refine below_set ?_ GE190.out | refine below_set ?_ GE194.out | refine below_set ?_ GE198.out) | exact HB.out)⟩
                                      · rw [if_neg c122] at H
                                        have c122b0 : (false != (decide (x13_3 < t192))) = false := by simpa using c122
                                        (try (have c122b1 : decide (false = (decide (x13_3 < t192))) = true := by simpa using c122))
                                        (try (have c122b2 : (false == (decide (x13_3 < t192))) = true := by simpa using c122))
                                        clear c122
                                        have H' := Aside0.mk H
                                        clear H
                                        have p203 : 0 ≤ (x12_2 : Int) := of_decide_eq_true (by first | (with_reducible assumption) | assumption)
                                        have q203 : x12_2 < (y199.length : Int) := of_decide_eq_true (by first | (with_reducible assumption) | assumption)
                                        obtain ⟨ad203, e203, hx203_0⟩ := Kd.at_int (Kd.R_reads' HO_11.out).2.2 x12_2 p203 q203
                                        obtain rfl : ad202 = ad203 := (by injection e203)
                                        replace p203 := eq_true p203
                                        replace q203 := eq_true q203
                                        have hnb135 := NB185_186.out
                                        have hnc135 := NB186_185.out
                                        have hnb136 := NB185_190.out
                                        have hnc136 := NB190_185.out
                                        have hnb137 := NB185_194.out
                                        have hnc137 := NB194_185.out
                                        have hnb138 := NB185_198.out
                                        have hnc138 := NB198_185.out
                                        have hcz139_0 : wr.cell? ⟨gb185, 0, none⟩ = some (.int .i64 t181) := (blk_cell BK185.out 0).trans rfl
                                        have hcz139_1 : wr.cell? ⟨gb185, 1, none⟩ = some (.int .i64 t182) := (blk_cell BK185.out 1).trans rfl
                                        have hfz139_0 := blk_frozen BK185.out 0
                                        have hfz139_1 := blk_frozen BK185.out 1
                                        have hnb140 := NB186_190.out
                                        have hnc140 := NB190_186.out
                                        have hnb141 := NB186_194.out
                                        have hnc141 := NB194_186.out
                                        have hnb142 := NB186_198.out
                                        have hnc142 := NB198_186.out
                                        have hcz143_0 : wr.cell? ⟨gb186, 0, none⟩ = some (.int .i64 t183) := (blk_cell BK186.out 0).trans rfl
                                        have hcz143_1 : wr.cell? ⟨gb186, 1, none⟩ = some (.int .i64 t184) := (blk_cell BK186.out 1).trans rfl
                                        have hfz143_0 := blk_frozen BK186.out 0
                                        have hfz143_1 := blk_frozen BK186.out 1
                                        have hnb144 := NB194_190.out
                                        have hnc144 := NB190_194.out
                                        have hnb145 := NB194_198.out
                                        have hnc145 := NB198_194.out
                                        have hcz146_0 : wr.cell? ⟨gb194, 0, none⟩ = some (.int .i64 t191) := (blk_cell BK194.out 0).trans rfl
                                        have hcz146_1 : wr.cell? ⟨gb194, 1, none⟩ = some (.int .i64 t192) := (blk_cell BK194.out 1).trans rfl
                                        have hfz146_0 := blk_frozen BK194.out 0
                                        have hfz146_1 := blk_frozen BK194.out 1
                                        go_wp2
                                        go_roundg k3
                                        case measure => have := HJ7.out; have := HK2.out; have := HK3.out; omega
                                        case rel => exact ⟨(wrap64 (x13_3 + 1)), (by first | rfl | (simp; done) | (simp [*]; done)), H', ⟨by have := HJ7.out; have := HK2.out; have := HK3.out; omega⟩, ⟨by (with_reducible repeat (first | apply Kd.R_alloc | apply Kd.R_drewN | apply Kd.R_drew)); exact HO_11.out⟩, ⟨by (with_reducible repeat (first | refine blk_drewN ?_ _ | refine blk_drew ?_ | refine blk_alloc ?_ _)); exact BK185.out⟩, ⟨by (with_reducible repeat (first | refine blk_drewN ?_ _ | refine blk_drew ?_ | refine blk_alloc ?_ _)); exact BK186.out⟩, ⟨by (with_reducible repeat (first | refine blk_drewN ?_ _ | refine blk_drew ?_ | refine blk_alloc ?_ _)); exact BK190.out⟩, ⟨by (with_reducible repeat (first | refine blk_drewN ?_ _ | refine blk_drew ?_ | refine blk_alloc ?_ _)); exact BK194.out⟩, ⟨by (with_reducible repeat (first | refine blk_drewN ?_ _ | refine blk_drew ?_ | refine blk_alloc ?_ _)); exact BK198.out⟩, ⟨by repeat (first | (with_reducible first | exact HB.out | apply below_alloc | apply pw_below_drewN | apply below_drew1 | refine below_set ?_ GE185.out | refine below_set ?_ GE186.out | refine below_set ?_ GE190.out | refine below_set ?_ GE194.out | refine below_set ?_ GE198.out) | exact HB.out)⟩⟩
                                    · rw [if_neg c121] at H
                                      have c121b0 : decide (t191 ≤ x13_3) = false := decide_eq_false c121
                                      clear c121
                                      by_cases c147 : (false != false) = true
                                      · exact absurd c147 (by decide)
                                      · rw [if_neg c147] at H
                                        have c147b0 : (false != false) = false := rfl
                                        clear c147
                                        have H' := Aside0.mk H
                                        clear H
                                        have p203 : 0 ≤ (x12_2 : Int) := of_decide_eq_true (by first | (with_reducible assumption) | assumption)
                                        have q203 : x12_2 < (y199.length : Int) := of_decide_eq_true (by first | (with_reducible assumption) | assumption)
                                        obtain ⟨ad203, e203, hx203_0⟩ := Kd.at_int (Kd.R_reads' HO_11.out).2.2 x12_2 p203 q203
                                        obtain rfl : ad202 = ad203 := (by injection e203)
                                        replace p203 := eq_true p203
                                        replace q203 := eq_true q203
                                        have hnb160 := NB185_186.out
                                        have hnc160 := NB186_185.out
                                        have hnb161 := NB185_190.out
                                        have hnc161 := NB190_185.out
                                        have hnb162 := NB185_194.out
                                        have hnc162 := NB194_185.out
                                        have hnb163 := NB185_198.out
                                        have hnc163 := NB198_185.out
                                        have hcz164_0 : wr.cell? ⟨gb185, 0, none⟩ = some (.int .i64 t181) := (blk_cell BK185.out 0).trans rfl
                                        have hcz164_1 : wr.cell? ⟨gb185, 1, none⟩ = some (.int .i64 t182) := (blk_cell BK185.out 1).trans rfl
                                        have hfz164_0 := blk_frozen BK185.out 0
                                        have hfz164_1 := blk_frozen BK185.out 1
                                        have hnb165 := NB186_190.out
                                        have hnc165 := NB190_186.out
                                        have hnb166 := NB186_194.out
                                        have hnc166 := NB194_186.out
                                        have hnb167 := NB186_198.out
                                        have hnc167 := NB198_186.out
                                        have hcz168_0 : wr.cell? ⟨gb186, 0, none⟩ = some (.int .i64 t183) := (blk_cell BK186.out 0).trans rfl
                                        have hcz168_1 : wr.cell? ⟨gb186, 1, none⟩ = some (.int .i64 t184) := (blk_cell BK186.out 1).trans rfl
                                        have hfz168_0 := blk_frozen BK186.out 0
                                        have hfz168_1 := blk_frozen BK186.out 1
                                        have hnb169 := NB194_190.out
                                        have hnc169 := NB190_194.out
                                        have hnb170 := NB194_198.out
                                        have hnc170 := NB198_194.out
                                        have hcz171_0 : wr.cell? ⟨gb194, 0, none⟩ = some (.int .i64 t191) := (blk_cell BK194.out 0).trans rfl
                                        have hcz171_1 : wr.cell? ⟨gb194, 1, none⟩ = some (.int .i64 t192) := (blk_cell BK194.out 1).trans rfl
                                        have hfz171_0 := blk_frozen BK194.out 0
                                        have hfz171_1 := blk_frozen BK194.out 1
                                        go_wp2
                                        go_roundg k3
                                        case measure => have := HJ7.out; have := HK2.out; have := HK3.out; omega
                                        case rel => exact ⟨(wrap64 (x13_3 + 1)), (by first | rfl | (simp; done) | (simp [*]; done)), H', ⟨by have := HJ7.out; have := HK2.out; have := HK3.out; omega⟩, ⟨by (with_reducible repeat (first | apply Kd.R_alloc | apply Kd.R_drewN | apply Kd.R_drew)); exact HO_11.out⟩, ⟨by (with_reducible repeat (first | refine blk_drewN ?_ _ | refine blk_drew ?_ | refine blk_alloc ?_ _)); exact BK185.out⟩, ⟨by (with_reducible repeat (first | refine blk_drewN ?_ _ | refine blk_drew ?_ | refine blk_alloc ?_ _)); exact BK186.out⟩, ⟨by (with_reducible repeat (first | refine blk_drewN ?_ _ | refine blk_drew ?_ | refine blk_alloc ?_ _)); exact BK190.out⟩, ⟨by (with_reducible repeat (first | refine blk_drewN ?_ _ | refine blk_drew ?_ | refine blk_alloc ?_ _)); exact BK194.out⟩, ⟨by (with_reducible repeat (first | refine blk_drewN ?_ _ | refine blk_drew ?_ | refine blk_alloc ?_ _)); exact BK198.out⟩, ⟨by repeat (first | (with_reducible first | exact HB.out | apply below_alloc | apply pw_below_drewN | apply below_drew1 | refine below_set ?_ GE185.out | refine below_set ?_ GE186.out | refine below_set ?_ GE190.out | refine below_set ?_ GE194.out | refine below_set ?_ GE198.out) | exact HB.out)⟩⟩
                                · rw [if_neg c68] at H
                                  have c68b0 : decide (x13_3 < t182) = false := decide_eq_false c68
                                  clear c68
                                  by_cases c172 : t191 ≤ x13_3
                                  · rw [if_pos c172] at H
                                    have c172b0 : decide (t191 ≤ x13_3) = true := decide_eq_true c172
                                    clear c172
                                    by_cases c173 : (false != (decide (x13_3 < t192))) = true
                                    · rw [if_pos c173] at H
                                      have c173b0 : (false != (decide (x13_3 < t192))) = true := c173
                                      (try (have c173b1 : decide (false = (decide (x13_3 < t192))) = false := by simpa using c173))
                                      (try (have c173b2 : (false == (decide (x13_3 < t192))) = false := by simpa using c173))
                                      (try (have c173b3 : ¬ (false = (decide (x13_3 < t192))) := by simpa using c173))
                                      clear c173
                                      obtain rfl := Option.some.inj H
                                      have p203 : 0 ≤ (x12_2 : Int) := of_decide_eq_true (by first | (with_reducible assumption) | assumption)
                                      have q203 : x12_2 < (y199.length : Int) := of_decide_eq_true (by first | (with_reducible assumption) | assumption)
                                      obtain ⟨ad203, e203, hx203_0⟩ := Kd.at_int (Kd.R_reads' HO_11.out).2.2 x12_2 p203 q203
                                      obtain rfl : ad202 = ad203 := (by injection e203)
                                      replace p203 := eq_true p203
                                      replace q203 := eq_true q203
                                      have hnb174 := NB185_186.out
                                      have hnc174 := NB186_185.out
                                      have hnb175 := NB185_190.out
                                      have hnc175 := NB190_185.out
                                      have hnb176 := NB185_194.out
                                      have hnc176 := NB194_185.out
                                      have hnb177 := NB185_198.out
                                      have hnc177 := NB198_185.out
                                      have hcz178_0 : wr.cell? ⟨gb185, 0, none⟩ = some (.int .i64 t181) := (blk_cell BK185.out 0).trans rfl
                                      have hcz178_1 : wr.cell? ⟨gb185, 1, none⟩ = some (.int .i64 t182) := (blk_cell BK185.out 1).trans rfl
                                      have hfz178_0 := blk_frozen BK185.out 0
                                      have hfz178_1 := blk_frozen BK185.out 1
                                      have hnb179 := NB194_186.out
                                      have hnc179 := NB186_194.out
                                      have hnb180 := NB194_190.out
                                      have hnc180 := NB190_194.out
                                      have hnb181 := NB194_198.out
                                      have hnc181 := NB198_194.out
                                      have hcz182_0 : wr.cell? ⟨gb194, 0, none⟩ = some (.int .i64 t191) := (blk_cell BK194.out 0).trans rfl
                                      have hcz182_1 : wr.cell? ⟨gb194, 1, none⟩ = some (.int .i64 t192) := (blk_cell BK194.out 1).trans rfl
                                      have hfz182_0 := blk_frozen BK194.out 0
                                      have hfz182_1 := blk_frozen BK194.out 1
                                      go_wp2
                                      go_ret
                                      exact ⟨by first | rfl | (simp [errW_none, errW_some] <;> rfl) | (simp [*, errW_none, errW_some] <;> rfl), by repeat (first | (with_reducible first | exact HB.out | apply below_alloc | apply pw_below_drewN | apply below_drew1 | refine below_set ?_ GE185.out | refine below_set ?_ GE186.out | refine below_set ?_ GE190.out | refine below_set ?_ GE194.out | refine below_set ?_ GE198.out) | exact HB.out)⟩
                                    · rw [if_neg c173] at H
                                      have c173b0 : (false != (decide (x13_3 < t192))) = false := by simpa using c173
                                      (try (have c173b1 : decide (false = (decide (x13_3 < t192))) = true := by simpa using c173))
                                      (try (have c173b2 : (false == (decide (x13_3 < t192))) = true := by simpa using c173))
                                      clear c173
                                      have H' := Aside0.mk H
                                      clear H
                                      have p203 : 0 ≤ (x12_2 : Int) := of_decide_eq_true (by first | (with_reducible assumption) | assumption)
                                      have q203 : x12_2 < (y199.length : Int) := of_decide_eq_true (by first | (with_reducible assumption) | assumption)
                                      obtain ⟨ad203, e203, hx203_0⟩ := Kd.at_int (Kd.R_reads' HO_11.out).2.2 x12_2 p203 q203
                                      obtain rfl : ad202 = ad203 := (by injection e203)
                                      replace p203 := eq_true p203
                                      replace q203 := eq_true q203
                                      have hnb183 := NB185_186.out
                                      have hnc183 := NB186_185.out
                                      have hnb184 := NB185_190.out
                                      have hnc184 := NB190_185.out
                                      have hnb185 := NB185_194.out
                                      have hnc185 := NB194_185.out
                                      have hnb186 := NB185_198.out
                                      have hnc186 := NB198_185.out
                                      have hcz187_0 : wr.cell? ⟨gb185, 0, none⟩ = some (.int .i64 t181) := (blk_cell BK185.out 0).trans rfl
                                      have hcz187_1 : wr.cell? ⟨gb185, 1, none⟩ = some (.int .i64 t182) := (blk_cell BK185.out 1).trans rfl
                                      have hfz187_0 := blk_frozen BK185.out 0
                                      have hfz187_1 := blk_frozen BK185.out 1
                                      have hnb188 := NB194_186.out
                                      have hnc188 := NB186_194.out
                                      have hnb189 := NB194_190.out
                                      have hnc189 := NB190_194.out
                                      have hnb190 := NB194_198.out
                                      have hnc190 := NB198_194.out
                                      have hcz191_0 : wr.cell? ⟨gb194, 0, none⟩ = some (.int .i64 t191) := (blk_cell BK194.out 0).trans rfl
                                      have hcz191_1 : wr.cell? ⟨gb194, 1, none⟩ = some (.int .i64 t192) := (blk_cell BK194.out 1).trans rfl
                                      have hfz191_0 := blk_frozen BK194.out 0
                                      have hfz191_1 := blk_frozen BK194.out 1
                                      go_wp2
                                      go_roundg k3
                                      case measure => have := HJ7.out; have := HK2.out; have := HK3.out; omega
                                      case rel => exact ⟨(wrap64 (x13_3 + 1)), (by first | rfl | (simp; done) | (simp [*]; done)), H', ⟨by have := HJ7.out; have := HK2.out; have := HK3.out; omega⟩, ⟨by (with_reducible repeat (first | apply Kd.R_alloc | apply Kd.R_drewN | apply Kd.R_drew)); exact HO_11.out⟩, ⟨by (with_reducible repeat (first | refine blk_drewN ?_ _ | refine blk_drew ?_ | refine blk_alloc ?_ _)); exact BK185.out⟩, ⟨by (with_reducible repeat (first | refine blk_drewN ?_ _ | refine blk_drew ?_ | refine blk_alloc ?_ _)); exact BK186.out⟩, ⟨by (with_reducible repeat (first | refine blk_drewN ?_ _ | refine blk_drew ?_ | refine blk_alloc ?_ _)); exact BK190.out⟩, ⟨by (with_reducible repeat (first | refine blk_drewN ?_ _ | refine blk_drew ?_ | refine blk_alloc ?_ _)); exact BK194.out⟩, ⟨by (with_reducible repeat (first | refine blk_drewN ?_ _ | refine blk_drew ?_ | refine blk_alloc ?_ _)); exact BK198.out⟩, ⟨by repeat (first | (with_reducible first | exact HB.out | apply below_alloc | apply pw_below_drewN | apply below_drew1 | refine below_set ?_ GE185.out | refine below_set ?_ GE186.out | refine below_set ?_ GE190.out | refine below_set ?_ GE194.out | refine below_set ?_ GE198.out) | exact HB.out)⟩⟩
                                  · rw [if_neg c172] at H
                                    have c172b0 : decide (t191 ≤ x13_3) = false := decide_eq_false c172
                                    clear c172
                                    by_cases c192 : (false != false) = true
                                    · exact absurd c192 (by decide)
                                    · rw [if_neg c192] at H
                                      have c192b0 : (false != false) = false := rfl
                                      clear c192
                                      have H' := Aside0.mk H
                                      clear H
                                      have p203 : 0 ≤ (x12_2 : Int) := of_decide_eq_true (by first | (with_reducible assumption) | assumption)
                                      have q203 : x12_2 < (y199.length : Int) := of_decide_eq_true (by first | (with_reducible assumption) | assumption)
                                      obtain ⟨ad203, e203, hx203_0⟩ := Kd.at_int (Kd.R_reads' HO_11.out).2.2 x12_2 p203 q203
                                      obtain rfl : ad202 = ad203 := (by injection e203)
                                      replace p203 := eq_true p203
                                      replace q203 := eq_true q203
                                      have hnb202 := NB185_186.out
                                      have hnc202 := NB186_185.out
                                      have hnb203 := NB185_190.out
                                      have hnc203 := NB190_185.out
                                      have hnb204 := NB185_194.out
                                      have hnc204 := NB194_185.out
                                      have hnb205 := NB185_198.out
                                      have hnc205 := NB198_185.out
                                      have hcz206_0 : wr.cell? ⟨gb185, 0, none⟩ = some (.int .i64 t181) := (blk_cell BK185.out 0).trans rfl
                                      have hcz206_1 : wr.cell? ⟨gb185, 1, none⟩ = some (.int .i64 t182) := (blk_cell BK185.out 1).trans rfl
                                      have hfz206_0 := blk_frozen BK185.out 0
                                      have hfz206_1 := blk_frozen BK185.out 1
                                      have hnb207 := NB194_186.out
                                      have hnc207 := NB186_194.out
                                      have hnb208 := NB194_190.out
                                      have hnc208 := NB190_194.out
                                      have hnb209 := NB194_198.out
                                      have hnc209 := NB198_194.out
                                      have hcz210_0 : wr.cell? ⟨gb194, 0, none⟩ = some (.int .i64 t191) := (blk_cell BK194.out 0).trans rfl
                                      have hcz210_1 : wr.cell? ⟨gb194, 1, none⟩ = some (.int .i64 t192) := (blk_cell BK194.out 1).trans rfl
                                      have hfz210_0 := blk_frozen BK194.out 0
                                      have hfz210_1 := blk_frozen BK194.out 1
                                      go_wp2
                                      go_roundg k3
                                      case measure => have := HJ7.out; have := HK2.out; have := HK3.out; omega
                                      case rel => exact ⟨(wrap64 (x13_3 + 1)), (by first | rfl | (simp; done) | (simp [*]; done)), H', ⟨by have := HJ7.out; have := HK2.out; have := HK3.out; omega⟩, ⟨by (with_reducible repeat (first | apply Kd.R_alloc | apply Kd.R_drewN | apply Kd.R_drew)); exact HO_11.out⟩, ⟨by (with_reducible repeat (first | refine blk_drewN ?_ _ | refine blk_drew ?_ | refine blk_alloc ?_ _)); exact BK185.out⟩, ⟨by (with_reducible repeat (first | refine blk_drewN ?_ _ | refine blk_drew ?_ | refine blk_alloc ?_ _)); exact BK186.out⟩, ⟨by (with_reducible repeat (first | refine blk_drewN ?_ _ | refine blk_drew ?_ | refine blk_alloc ?_ _)); exact BK190.out⟩, ⟨by (with_reducible repeat (first | refine blk_drewN ?_ _ | refine blk_drew ?_ | refine blk_alloc ?_ _)); exact BK194.out⟩, ⟨by (with_reducible repeat (first | refine blk_drewN ?_ _ | refine blk_drew ?_ | refine blk_alloc ?_ _)); exact BK198.out⟩, ⟨by repeat (first | (with_reducible first | exact HB.out | apply below_alloc | apply pw_below_drewN | apply below_drew1 | refine below_set ?_ GE185.out | refine below_set ?_ GE186.out | refine below_set ?_ GE190.out | refine below_set ?_ GE194.out | refine below_set ?_ GE198.out) | exact HB.out)⟩⟩
                              · rw [if_neg c67] at H
                                have c67b0 : decide (t181 ≤ x13_3) = false := decide_eq_false c67
                                clear c67
                                by_cases c211 : t191 ≤ x13_3
                                · rw [if_pos c211] at H
                                  have c211b0 : decide (t191 ≤ x13_3) = true := decide_eq_true c211
                                  clear c211
                                  by_cases c212 : (false != (decide (x13_3 < t192))) = true
                                  · rw [if_pos c212] at H
                                    have c212b0 : (false != (decide (x13_3 < t192))) = true := c212
                                    (try (have c212b1 : decide (false = (decide (x13_3 < t192))) = false := by simpa using c212))
                                    (try (have c212b2 : (false == (decide (x13_3 < t192))) = false := by simpa using c212))
                                    (try (have c212b3 : ¬ (false = (decide (x13_3 < t192))) := by simpa using c212))
                                    clear c212
                                    obtain rfl := Option.some.inj H
                                    have p203 : 0 ≤ (x12_2 : Int) := of_decide_eq_true (by first | (with_reducible assumption) | assumption)
                                    have q203 : x12_2 < (y199.length : Int) := of_decide_eq_true (by first | (with_reducible assumption) | assumption)
                                    obtain ⟨ad203, e203, hx203_0⟩ := Kd.at_int (Kd.R_reads' HO_11.out).2.2 x12_2 p203 q203
                                    obtain rfl : ad202 = ad203 := (by injection e203)
                                    replace p203 := eq_true p203
                                    replace q203 := eq_true q203
                                    have hnb213 := NB185_186.out
                                    have hnc213 := NB186_185.out
                                    have hnb214 := NB185_190.out
                                    have hnc214 := NB190_185.out
                                    have hnb215 := NB185_194.out
                                    have hnc215 := NB194_185.out
                                    have hnb216 := NB185_198.out
                                    have hnc216 := NB198_185.out
                                    have hcz217_0 : wr.cell? ⟨gb185, 0, none⟩ = some (.int .i64 t181) := (blk_cell BK185.out 0).trans rfl
                                    have hcz217_1 : wr.cell? ⟨gb185, 1, none⟩ = some (.int .i64 t182) := (blk_cell BK185.out 1).trans rfl
                                    have hfz217_0 := blk_frozen BK185.out 0
                                    have hfz217_1 := blk_frozen BK185.out 1
                                    have hnb218 := NB194_186.out
                                    have hnc218 := NB186_194.out
                                    have hnb219 := NB194_190.out
                                    have hnc219 := NB190_194.out
                                    have hnb220 := NB194_198.out
                                    have hnc220 := NB198_194.out
                                    have hcz221_0 : wr.cell? ⟨gb194, 0, none⟩ = some (.int .i64 t191) := (blk_cell BK194.out 0).trans rfl
                                    have hcz221_1 : wr.cell? ⟨gb194, 1, none⟩ = some (.int .i64 t192) := (blk_cell BK194.out 1).trans rfl
                                    have hfz221_0 := blk_frozen BK194.out 0
                                    have hfz221_1 := blk_frozen BK194.out 1
                                    go_wp2
                                    go_ret
                                    exact ⟨by first | rfl | (simp [errW_none, errW_some] <;> rfl) | (simp [*, errW_none, errW_some] <;> rfl), by repeat (first | (with_reducible first | exact HB.out | apply below_alloc | apply pw_below_drewN | apply below_drew1 | refine below_set ?_ GE185.out | refine below_set ?_ GE186.out | refine below_set ?_ GE190.out | refine below_set ?_ GE194.out | refine below_set ?_ GE198.out) | exact HB.out)⟩
                                  · rw [if_neg c212] at H
                                    have c212b0 : (false != (decide (x13_3 < t192))) = false := by simpa using c212
                                    (try (have c212b1 : decide (false = (decide (x13_3 < t192))) = true := by simpa using c212))
                                    (try (have c212b2 : (false == (decide (x13_3 < t192))) = true := by simpa using c212))
                                    clear c212
                                    have H' := Aside0.mk H
                                    clear H
                                    have p203 : 0 ≤ (x12_2 : Int) := of_decide_eq_true (by first | (with_reducible assumption) | assumption)
                                    have q203 : x12_2 < (y199.length : Int) := of_decide_eq_true (by first | (with_reducible assumption) | assumption)
                                    obtain ⟨ad203, e203, hx203_0⟩ := Kd.at_int (Kd.R_reads' HO_11.out).2.2 x12_2 p203 q203
                                    obtain rfl : ad202 = ad203 := (by injection e203)
                                    replace p203 := eq_true p203
                                    replace q203 := eq_true q203
                                    have hnb222 := NB185_186.out
                                    have hnc222 := NB186_185.out
                                    have hnb223 := NB185_190.out
                                    have hnc223 := NB190_185.out
                                    have hnb224 := NB185_194.out
                                    have hnc224 := NB194_185.out
                                    have hnb225 := NB185_198.out
                                    have hnc225 := NB198_185.out
                                    have hcz226_0 : wr.cell? ⟨gb185, 0, none⟩ = some (.int .i64 t181) := (blk_cell BK185.out 0).trans rfl
                                    have hcz226_1 : wr.cell? ⟨gb185, 1, none⟩ = some (.int .i64 t182) := (blk_cell BK185.out 1).trans rfl
                                    have hfz226_0 := blk_frozen BK185.out 0
                                    have hfz226_1 := blk_frozen BK185.out 1
                                    have hnb227 := NB194_186.out
                                    have hnc227 := NB186_194.out
                                    have hnb228 := NB194_190.out
                                    have hnc228 := NB190_194.out
                                    have hnb229 := NB194_198.out
                                    have hnc229 := NB198_194.out
                                    have hcz230_0 : wr.cell? ⟨gb194, 0, none⟩ = some (.int .i64 t191) := (blk_cell BK194.out 0).trans rfl
                                    have hcz230_1 : wr.cell? ⟨gb194, 1, none⟩ = some (.int .i64 t192) := (blk_cell BK194.out 1).trans rfl
                                    have hfz230_0 := blk_frozen BK194.out 0
                                    have hfz230_1 := blk_frozen BK194.out 1
                                    go_wp2
                                    go_roundg k3
                                    case measure => have := HJ7.out; have := HK2.out; have := HK3.out; omega
                                    case rel => exact ⟨(wrap64 (x13_3 + 1)), (by first | rfl | (simp; done) | (simp [*]; done)), H', ⟨by have := HJ7.out; have := HK2.out; have := HK3.out; omega⟩, ⟨by (with_reducible repeat (first | apply Kd.R_alloc | apply Kd.R_drewN | apply Kd.R_drew)); exact HO_11.out⟩, ⟨by (with_reducible repeat (first | refine blk_drewN ?_ _ | refine blk_drew ?_ | refine blk_alloc ?_ _)); exact BK185.out⟩, ⟨by (with_reducible repeat (first | refine blk_drewN ?_ _ | refine blk_drew ?_ | refine blk_alloc ?_ _)); exact BK186.out⟩, ⟨by (with_reducible repeat (first | refine blk_drewN ?_ _ | refine blk_drew ?_ | refine blk_alloc ?_ _)); exact BK190.out⟩, ⟨by (with_reducible repeat (first | refine blk_drewN ?_ _ | refine blk_drew ?_ | refine blk_alloc ?_ _)); exact BK194.out⟩, ⟨by (with_reducible repeat (first | refine blk_drewN ?_ _ | refine blk_drew ?_ | refine blk_alloc ?_ _)); exact BK198.out⟩, ⟨by repeat (first | (with_reducible first | exact HB.out | apply below_alloc | apply pw_below_drewN | apply below_drew1 | refine below_set ?_ GE185.out | refine below_set ?_ GE186.out | refine below_set ?_ GE190.out | refine below_set ?_ GE194.out | refine below_set ?_ GE198.out) | exact HB.out)⟩⟩
                                · rw [if_neg c211] at H
                                  have c211b0 : decide (t191 ≤ x13_3) = false := decide_eq_false c211
                                  clear c211
                                  by_cases c231 : (false != false) = true
                                  · exact absurd c231 (by decide)
                                  · rw [if_neg c231] at H
                                    have c231b0 : (false != false) = false := rfl
                                    clear c231
                                    have H' := Aside0.mk H
                                    clear H
                                    have p203 : 0 ≤ (x12_2 : Int) := of_decide_eq_true (by first | (with_reducible assumption) | assumption)
                                    have q203 : x12_2 < (y199.length : Int) := of_decide_eq_true (by first | (with_reducible assumption) | assumption)
                                    obtain ⟨ad203, e203, hx203_0⟩ := Kd.at_int (Kd.R_reads' HO_11.out).2.2 x12_2 p203 q203
                                    obtain rfl : ad202 = ad203 := (by injection e203)
                                    replace p203 := eq_true p203
                                    replace q203 := eq_true q203
                                    have hnb241 := NB185_186.out
                                    have hnc241 := NB186_185.out
                                    have hnb242 := NB185_190.out
                                    have hnc242 := NB190_185.out
                                    have hnb243 := NB185_194.out
                                    have hnc243 := NB194_185.out
                                    have hnb244 := NB185_198.out
                                    have hnc244 := NB198_185.out
                                    have hcz245_0 : wr.cell? ⟨gb185, 0, none⟩ = some (.int .i64 t181) := (blk_cell BK185.out 0).trans rfl
                                    have hcz245_1 : wr.cell? ⟨gb185, 1, none⟩ = some (.int .i64 t182) := (blk_cell BK185.out 1).trans rfl
                                    have hfz245_0 := blk_frozen BK185.out 0
                                    have hfz245_1 := blk_frozen BK185.out 1
                                    have hnb246 := NB194_186.out
                                    have hnc246 := NB186_194.out
                                    have hnb247 := NB194_190.out
                                    have hnc247 := NB190_194.out
                                    have hnb248 := NB194_198.out
                                    have hnc248 := NB198_194.out
                                    have hcz249_0 : wr.cell? ⟨gb194, 0, none⟩ = some (.int .i64 t191) := (blk_cell BK194.out 0).trans rfl
                                    have hcz249_1 : wr.cell? ⟨gb194, 1, none⟩ = some (.int .i64 t192) := (blk_cell BK194.out 1).trans rfl
                                    have hfz249_0 := blk_frozen BK194.out 0
                                    have hfz249_1 := blk_frozen BK194.out 1
                                    go_wp2
                                    go_roundg k3
                                    case measure => have := HJ7.out; have := HK2.out; have := HK3.out; omega
                                    case rel => exact ⟨(wrap64 (x13_3 + 1)), (by first | rfl | (simp; done) | (simp [*]; done)), H', ⟨by have := HJ7.out; have := HK2.out; have := HK3.out; omega⟩, ⟨by (with_reducible repeat (first | apply Kd.R_alloc | apply Kd.R_drewN | apply Kd.R_drew)); exact HO_11.out⟩, ⟨by (with_reducible repeat (first | refine blk_drewN ?_ _ | refine blk_drew ?_ | refine blk_alloc ?_ _)); exact BK185.out⟩, ⟨by (with_reducible repeat (first | refine blk_drewN ?_ _ | refine blk_drew ?_ | refine blk_alloc ?_ _)); exact BK186.out⟩, ⟨by (with_reducible repeat (first | refine blk_drewN ?_ _ | refine blk_drew ?_ | refine blk_alloc ?_ _)); exact BK190.out⟩, ⟨by (with_reducible repeat (first | refine blk_drewN ?_ _ | refine blk_drew ?_ | refine blk_alloc ?_ _)); exact BK194.out⟩, ⟨by (with_reducible repeat (first | refine blk_drewN ?_ _ | refine blk_drew ?_ | refine blk_alloc ?_ _)); exact BK198.out⟩, ⟨by repeat (first | (with_reducible first | exact HB.out | apply below_alloc | apply pw_below_drewN | apply below_drew1 | refine below_set ?_ GE185.out | refine below_set ?_ GE186.out | refine below_set ?_ GE190.out | refine below_set ?_ GE194.out | refine below_set ?_ GE198.out) | exact HB.out)⟩⟩
                            · rw [if_neg c66] at H
                              have c66b0 : decide (x13_3 ≤ (rd y199 x12_2)) = false := decide_eq_false c66
                              clear c66
                              have H' := Aside0.mk H
                              clear H
                              have p203 : 0 ≤ (x12_2 : Int) := of_decide_eq_true (by first | (with_reducible assumption) | assumption)
                              have q203 : x12_2 < (y199.length : Int) := of_decide_eq_true (by first | (with_reducible assumption) | assumption)
                              obtain ⟨ad203, e203, hx203_0⟩ := Kd.at_int (Kd.R_reads' HO_11.out).2.2 x12_2 p203 q203
                              obtain rfl : ad202 = ad203 := (by injection e203)
                              replace p203 := eq_true p203
                              replace q203 := eq_true q203
                              go_wp2
                              go_roundg k3
                              case measure => have := HJ7.out; have := HK2.out; have := HK3.out; omega
                              case rel => exact ⟨(wrap64 (x12_2 + 1)), (by first | rfl | (simp; done) | (simp [*]; done)), H', ⟨by have := HJ7.out; have := HK2.out; have := HK3.out; omega⟩, ⟨by (with_reducible repeat (first | apply Kd.R_alloc | apply Kd.R_drewN | apply Kd.R_drew)); exact HO_11.out⟩, ⟨by (with_reducible repeat (first | refine blk_drewN ?_ _ | refine blk_drew ?_ | refine blk_alloc ?_ _)); exact BK185.out⟩, ⟨by (with_reducible repeat (first | refine blk_drewN ?_ _ | refine blk_drew ?_ | refine blk_alloc ?_ _)); exact BK186.out⟩, ⟨by (with_reducible repeat (first | refine blk_drewN ?_ _ | refine blk_drew ?_ | refine blk_alloc ?_ _)); exact BK190.out⟩, ⟨by (with_reducible repeat (first | refine blk_drewN ?_ _ | refine blk_drew ?_ | refine blk_alloc ?_ _)); exact BK194.out⟩, ⟨by (with_reducible repeat (first | refine blk_drewN ?_ _ | refine blk_drew ?_ | refine blk_alloc ?_ _)); exact BK198.out⟩, ⟨by repeat (first | (with_reducible first | exact HB.out | apply below_alloc | apply pw_below_drewN | apply below_drew1 | refine below_set ?_ GE185.out | refine below_set ?_ GE186.out | refine below_set ?_ GE190.out | refine below_set ?_ GE194.out | refine below_set ?_ GE198.out) | exact HB.out)⟩⟩
                          · rw [if_neg c65] at H
                            exact absurd H (by simp)
                        · rw [if_neg c64] at H
                          exact absurd H (by simp)
                  · rw [if_neg c62] at H
                    exact absurd H (by simp)
                · rw [if_neg c61] at H
                  have c61b0 : decide (x12_2 < (y199.length : Int)) = false := decide_eq_false c61
                  clear c61
                  obtain rfl := Option.some.inj H
                  obtain ⟨Ao250, co250, eo250⟩ := Kd.R_slice HO_11.out
                  subst eo250
                  go_wp2
                  go_ret
                  exact ⟨by first | rfl | (simp [errW_none, errW_some] <;> rfl) | (simp [*, errW_none, errW_some] <;> rfl), by repeat (first | (with_reducible first | exact HB.out | apply below_alloc | apply pw_below_drewN | apply below_drew1 | refine below_set ?_ GE185.out | refine below_set ?_ GE186.out | refine below_set ?_ GE190.out | refine below_set ?_ GE194.out | refine below_set ?_ GE198.out) | exact HB.out)⟩
          · replace c49 := Bool.eq_false_iff.mpr c49
            subst c49
            have H1 : (some (t191 == 0 && (t192 == 0))) = some r := by rw [if_neg (show ¬ (false = true) by decide)] at H; exact H
            clear H
            have H := H1
            clear H1
            obtain rfl := Option.some.inj H
            have hnb251 := NB194_185.out
            have hnc251 := NB185_194.out
            have hnb252 := NB194_186.out
            have hnc252 := NB186_194.out
            have hnb253 := NB194_190.out
            have hnc253 := NB190_194.out
            have hnb254 := NB194_198.out
            have hnc254 := NB198_194.out
            have hcz255_0 : wc.cell? ⟨gb194, 0, none⟩ = some (.int .i64 t191) := (blk_cell BK194.out 0).trans rfl
            have hcz255_1 : wc.cell? ⟨gb194, 1, none⟩ = some (.int .i64 t192) := (blk_cell BK194.out 1).trans rfl
            have hfz255_0 := blk_frozen BK194.out 0
            have hfz255_1 := blk_frozen BK194.out 1
            go_wp2
            go_ret
            exact ⟨by first | rfl | (simp [errW_none, errW_some] <;> rfl) | (simp [*, errW_none, errW_some] <;> rfl), by repeat (first | (with_reducible first | exact HB.out | apply below_alloc | apply pw_below_drewN | apply below_drew1 | refine below_set ?_ GE185.out | refine below_set ?_ GE186.out | refine below_set ?_ GE190.out | refine below_set ?_ GE194.out | refine below_set ?_ GE198.out) | exact HB.out)⟩

/-- THE ONE PURE STATEMENT of laws_FnOverlaps: yours. -/
def laws_FnOverlaps.Pure : Prop := ∀ (l0 : List Int), l0.length ≤ maxLen → l0.length * 1 ≤ 140737488351232 → (∀ x ∈ l0, (Lit.int .u8 x).wf = true) → ∃ k, laws_FnOverlaps.f k l0 = some true
theorem laws_FnOverlaps.walk (P : laws_FnOverlaps.Pure) (a0 : Option Addr) (len0 cap0 : Nat) (z0 : List Int) (w : World) (w0 : (a0 = none ∧ len0 = 0 ∧ cap0 = 0 ∧ z0 = []) ∨ ∃ x, a0 = some x ∧ len0 ≤ cap0 ∧ cap0 ≤ maxLen ∧ z0.length = cap0 ∧ (∀ i, i < z0.length → w.cell? (x.add i) = some (.int .u8 (z0.getD i 0))) ∧ ∀ n ∈ z0, (Lit.int .u8 n).wf = true) (y0 : len0 * 1 ≤ 140737488351232) :
    Calls Try.prog 12 #[.slice a0 len0 cap0] w fun e w' => e = .returned (.bool true) ∧ Below w.heap.size w w' := by
  obtain ⟨l0, rfl, hr0, hm0, hw0, hc0⟩ := ReadsInt.ofRowC w0
  obtain ⟨k, h⟩ := P l0 hm0 y0 hw0
  refine (laws_FnOverlaps.calls k _ _ l0 true w (Kd.C_of_reads (d := (0 : Int)) (h1 := fun _ => rfl) hr0) hc0 h).mono ?_
  rintro e w' ⟨rfl, hd⟩
  exact ⟨rfl, hd⟩

end Go.Proofs.Ytfpddfhndifnoaa.PFnOverlaps
