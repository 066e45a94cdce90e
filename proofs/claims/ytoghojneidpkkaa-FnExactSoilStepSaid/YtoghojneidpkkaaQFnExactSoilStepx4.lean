/-
  Contracts of functions that the law FnExactSoilStep reaches, as the kit's print tool wrote them, with rows that did not compile taken out or proved anew.
  Conditions: none.
-/
import Derived.Test.YtoghojneidpkkaaPFnExactSoilStepx0
import Derived.Test.YtoghojneidpkkaaQFnExactSoilStepx2
import Derived.Test.YtoghojneidpkkaaQFnExactSoilStepx3
namespace Go.Proofs.Ytoghojneidpkkaa.PFnExactSoilStep
open Go.RowKit Go.Proofs.YtoghojneidpkkaaW.PrintWords Go.Proofs.YtoghojneidpkkaaW.PrintLast Go.Proofs.YtoghojneidpkkaaW.PrintMore
attribute [local go_sem] max2_int min2_int max_two min_two max_three min_three max_four min_four   -- for this text's walks alone
set_option linter.unusedVariables false
set_option linter.unusedSimpArgs false

/-! ### impl_SoilStep: function 24 -/
mutual
def impl_SoilStep.j0 : Nat → Int → Int → Bool → Int → Int → Int → Int → Int → Option (Int × Int × Int × Int × Int × Bool)
  | 0, _, _, _, _, _, _, _, _ => none
  | k + 1, x1, x2, x31, x122000, x122001, x122002, x122003, x122004 => if x31 = true then (some (0, 0, 0, 0, 0, false)) else (if x1 < 0 then (impl_SoilStep.j1 k x1 (wrap64 (x122000 + x2)) x122001 x122002 x122003 (wrap64 (x122004 + x2))) else (impl_SoilStep.j1 k x1 x122000 (wrap64 (x122001 + x2)) x122002 x122003 (wrap64 (x122004 + x2))))
def impl_SoilStep.j1 : Nat → Int → Int → Int → Int → Int → Int → Option (Int × Int × Int × Int × Int × Bool)
  | 0, _, _, _, _, _, _ => none
  | k + 1, x1, x122000, x122001, x122002, x122003, x122004 => if x1 > 0 then (impl_SoilStep.j2 k (wrap64 (x122000 - (mn x122000 (wrap64 (Int.tdiv (wrap64 (3 * x1)) 10))))) (wrap64 ((wrap64 (x122001 + (mn x122000 (wrap64 (Int.tdiv (wrap64 (3 * x1)) 10))))) - (mn (wrap64 (x122001 + (mn x122000 (wrap64 (Int.tdiv (wrap64 (3 * x1)) 10))))) (wrap64 (Int.tdiv x1 20))))) x122002 (wrap64 (x122003 + (mn (wrap64 (x122001 + (mn x122000 (wrap64 (Int.tdiv (wrap64 (3 * x1)) 10))))) (wrap64 (Int.tdiv x1 20))))) x122004) else (impl_SoilStep.j2 k x122000 x122001 x122002 x122003 x122004)
def impl_SoilStep.j2 : Nat → Int → Int → Int → Int → Int → Option (Int × Int × Int × Int × Int × Bool)
  | 0, _, _, _, _, _ => none
  | k + 1, x122000, x122001, x122002, x122003, x122004 => if x122001 > 100 then (impl_SoilStep.j3 k x122000 (wrap64 (x122001 - (mn (wrap64 (Int.tdiv (wrap64 (x122001 - 100)) 4)) (wrap64 (1500 - x122002))))) (wrap64 (x122002 + (mn (wrap64 (Int.tdiv (wrap64 (x122001 - 100)) 4)) (wrap64 (1500 - x122002))))) x122003 x122004) else (impl_SoilStep.j3 k x122000 x122001 x122002 x122003 x122004)
def impl_SoilStep.j3 : Nat → Int → Int → Int → Int → Int → Option (Int × Int × Int × Int × Int × Bool)
  | 0, _, _, _, _, _ => none
  | k + 1, x122000, x122001, x122002, x122003, x122004 => if x122001 > 400 then (impl_SoilStep.j4 k x122000 400 x122002 (wrap64 (x122003 + (wrap64 (x122001 - 400)))) x122004) else (impl_SoilStep.j4 k x122000 x122001 x122002 x122003 x122004)
def impl_SoilStep.j4 : Nat → Int → Int → Int → Int → Int → Option (Int × Int × Int × Int × Int × Bool)
  | 0, _, _, _, _, _ => none
  | k + 1, x122000, x122001, x122002, x122003, x122004 => some (x122000, x122001, wrap64 (x122002 - (wrap64 (Int.tdiv x122002 50))), wrap64 (x122003 + (wrap64 (Int.tdiv x122002 50))), x122004, true)
end
def impl_SoilStep.f (k : Nat) (a0_0 : Int) (a0_1 : Int) (a0_2 : Int) (a0_3 : Int) (a0_4 : Int) (a1 : Int) (a2 : Int) : Option (Int × Int × Int × Int × Int × Bool) := (impl_soilOk.f k a0_0 a0_1 a0_2 a0_3 a0_4).bind fun t123 => (if t123 = true then ((impl_in.f a1 (-800) 800).bind fun t124 => (if t124 = true then ((impl_in.f a2 0 5000).bind fun t125 => (if t125 = true then (impl_SoilStep.j0 k a1 a2 (decide (a0_4 > (wrap64 (1000000000000 - a2)))) a0_0 a0_1 a0_2 a0_3 a0_4) else (impl_SoilStep.j0 k a1 a2 true a0_0 a0_1 a0_2 a0_3 a0_4))) else (impl_SoilStep.j0 k a1 a2 true a0_0 a0_1 a0_2 a0_3 a0_4))) else (impl_SoilStep.j0 k a1 a2 true a0_0 a0_1 a0_2 a0_3 a0_4))
theorem impl_SoilStep.mono_l : ∀ k, (∀ y0 y1 y2 y3 y4 y5 y6 y7, LeO (impl_SoilStep.j0 k y0 y1 y2 y3 y4 y5 y6 y7) (impl_SoilStep.j0 (k + 1) y0 y1 y2 y3 y4 y5 y6 y7)) ∧ (∀ y0 y1 y2 y3 y4 y5, LeO (impl_SoilStep.j1 k y0 y1 y2 y3 y4 y5) (impl_SoilStep.j1 (k + 1) y0 y1 y2 y3 y4 y5)) ∧ (∀ y0 y1 y2 y3 y4, LeO (impl_SoilStep.j2 k y0 y1 y2 y3 y4) (impl_SoilStep.j2 (k + 1) y0 y1 y2 y3 y4)) ∧ (∀ y0 y1 y2 y3 y4, LeO (impl_SoilStep.j3 k y0 y1 y2 y3 y4) (impl_SoilStep.j3 (k + 1) y0 y1 y2 y3 y4)) ∧ (∀ y0 y1 y2 y3 y4, LeO (impl_SoilStep.j4 k y0 y1 y2 y3 y4) (impl_SoilStep.j4 (k + 1) y0 y1 y2 y3 y4))
  | 0 => ⟨fun _ _ _ _ _ _ _ _ r h => by simp [impl_SoilStep.j0] at h, fun _ _ _ _ _ _ r h => by simp [impl_SoilStep.j1] at h, fun _ _ _ _ _ r h => by simp [impl_SoilStep.j2] at h, fun _ _ _ _ _ r h => by simp [impl_SoilStep.j3] at h, fun _ _ _ _ _ r h => by simp [impl_SoilStep.j4] at h⟩
  | k + 1 => by
    obtain ⟨ih0, ih1, ih2, ih3, ih4⟩ := impl_SoilStep.mono_l k
    refine ⟨?_, ?_, ?_, ?_, ?_⟩
    · intro y0 y1 y2 y3 y4 y5 y6 y7
      unfold impl_SoilStep.j0
      repeat' first
      | (with_reducible exact ih0 _ _ _ _ _ _ _ _)
      | (with_reducible exact ih1 _ _ _ _ _ _)
      | (with_reducible exact ih2 _ _ _ _ _)
      | (with_reducible exact ih3 _ _ _ _ _)
      | (with_reducible exact ih4 _ _ _ _ _)
      | (with_reducible exact impl_soilOk.mono _ _ _ _ _ _)
      | (with_reducible exact LeO.refl _)
      | (with_reducible exact LeO.none _)
      | (with_reducible refine LeO.ite ?_ ?_)
      | (with_reducible refine LeO.bind ?_ (fun _ => ?_))
      | exact ih0 _ _ _ _ _ _ _ _
      | exact ih1 _ _ _ _ _ _
      | exact ih2 _ _ _ _ _
      | exact ih3 _ _ _ _ _
      | exact ih4 _ _ _ _ _
      | exact impl_soilOk.mono _ _ _ _ _ _
      | exact LeO.none _
      | refine LeO.ite ?_ ?_
      | refine LeO.bind ?_ (fun _ => ?_)
    · intro y0 y1 y2 y3 y4 y5
      unfold impl_SoilStep.j1
      repeat' first
      | (with_reducible exact ih0 _ _ _ _ _ _ _ _)
      | (with_reducible exact ih1 _ _ _ _ _ _)
      | (with_reducible exact ih2 _ _ _ _ _)
      | (with_reducible exact ih3 _ _ _ _ _)
      | (with_reducible exact ih4 _ _ _ _ _)
      | (with_reducible exact impl_soilOk.mono _ _ _ _ _ _)
      | (with_reducible exact LeO.refl _)
      | (with_reducible exact LeO.none _)
      | (with_reducible refine LeO.ite ?_ ?_)
      | (with_reducible refine LeO.bind ?_ (fun _ => ?_))
      | exact ih0 _ _ _ _ _ _ _ _
      | exact ih1 _ _ _ _ _ _
      | exact ih2 _ _ _ _ _
      | exact ih3 _ _ _ _ _
      | exact ih4 _ _ _ _ _
      | exact impl_soilOk.mono _ _ _ _ _ _
      | exact LeO.none _
      | refine LeO.ite ?_ ?_
      | refine LeO.bind ?_ (fun _ => ?_)
    · intro y0 y1 y2 y3 y4
      unfold impl_SoilStep.j2
      repeat' first
      | (with_reducible exact ih0 _ _ _ _ _ _ _ _)
      | (with_reducible exact ih1 _ _ _ _ _ _)
      | (with_reducible exact ih2 _ _ _ _ _)
      | (with_reducible exact ih3 _ _ _ _ _)
      | (with_reducible exact ih4 _ _ _ _ _)
      | (with_reducible exact impl_soilOk.mono _ _ _ _ _ _)
      | (with_reducible exact LeO.refl _)
      | (with_reducible exact LeO.none _)
      | (with_reducible refine LeO.ite ?_ ?_)
      | (with_reducible refine LeO.bind ?_ (fun _ => ?_))
      | exact ih0 _ _ _ _ _ _ _ _
      | exact ih1 _ _ _ _ _ _
      | exact ih2 _ _ _ _ _
      | exact ih3 _ _ _ _ _
      | exact ih4 _ _ _ _ _
      | exact impl_soilOk.mono _ _ _ _ _ _
      | exact LeO.none _
      | refine LeO.ite ?_ ?_
      | refine LeO.bind ?_ (fun _ => ?_)
    · intro y0 y1 y2 y3 y4
      unfold impl_SoilStep.j3
      repeat' first
      | (with_reducible exact ih0 _ _ _ _ _ _ _ _)
      | (with_reducible exact ih1 _ _ _ _ _ _)
      | (with_reducible exact ih2 _ _ _ _ _)
      | (with_reducible exact ih3 _ _ _ _ _)
      | (with_reducible exact ih4 _ _ _ _ _)
      | (with_reducible exact impl_soilOk.mono _ _ _ _ _ _)
      | (with_reducible exact LeO.refl _)
      | (with_reducible exact LeO.none _)
      | (with_reducible refine LeO.ite ?_ ?_)
      | (with_reducible refine LeO.bind ?_ (fun _ => ?_))
      | exact ih0 _ _ _ _ _ _ _ _
      | exact ih1 _ _ _ _ _ _
      | exact ih2 _ _ _ _ _
      | exact ih3 _ _ _ _ _
      | exact ih4 _ _ _ _ _
      | exact impl_soilOk.mono _ _ _ _ _ _
      | exact LeO.none _
      | refine LeO.ite ?_ ?_
      | refine LeO.bind ?_ (fun _ => ?_)
    · intro y0 y1 y2 y3 y4
      unfold impl_SoilStep.j4
      repeat' first
      | (with_reducible exact ih0 _ _ _ _ _ _ _ _)
      | (with_reducible exact ih1 _ _ _ _ _ _)
      | (with_reducible exact ih2 _ _ _ _ _)
      | (with_reducible exact ih3 _ _ _ _ _)
      | (with_reducible exact ih4 _ _ _ _ _)
      | (with_reducible exact impl_soilOk.mono _ _ _ _ _ _)
      | (with_reducible exact LeO.refl _)
      | (with_reducible exact LeO.none _)
      | (with_reducible refine LeO.ite ?_ ?_)
      | (with_reducible refine LeO.bind ?_ (fun _ => ?_))
      | exact ih0 _ _ _ _ _ _ _ _
      | exact ih1 _ _ _ _ _ _
      | exact ih2 _ _ _ _ _
      | exact ih3 _ _ _ _ _
      | exact ih4 _ _ _ _ _
      | exact impl_soilOk.mono _ _ _ _ _ _
      | exact LeO.none _
      | refine LeO.ite ?_ ?_
      | refine LeO.bind ?_ (fun _ => ?_)
theorem impl_SoilStep.mono : ∀ a0 a1 a2 a3 a4 a5 a6 k, LeO (impl_SoilStep.f k a0 a1 a2 a3 a4 a5 a6) (impl_SoilStep.f (k + 1) a0 a1 a2 a3 a4 a5 a6) := by
  intro a0 a1 a2 a3 a4 a5 a6 k
  obtain ⟨ih0, ih1, ih2, ih3, ih4⟩ := impl_SoilStep.mono_l k
  unfold impl_SoilStep.f
  repeat' first
      | (with_reducible exact ih0 _ _ _ _ _ _ _ _)
      | (with_reducible exact ih1 _ _ _ _ _ _)
      | (with_reducible exact ih2 _ _ _ _ _)
      | (with_reducible exact ih3 _ _ _ _ _)
      | (with_reducible exact ih4 _ _ _ _ _)
      | (with_reducible exact impl_soilOk.mono _ _ _ _ _ _)
      | (with_reducible exact LeO.refl _)
      | (with_reducible exact LeO.none _)
      | (with_reducible refine LeO.ite ?_ ?_)
      | (with_reducible refine LeO.bind ?_ (fun _ => ?_))
      | exact ih0 _ _ _ _ _ _ _ _
      | exact ih1 _ _ _ _ _ _
      | exact ih2 _ _ _ _ _
      | exact ih3 _ _ _ _ _
      | exact ih4 _ _ _ _ _
      | exact impl_soilOk.mono _ _ _ _ _ _
      | exact LeO.none _
      | refine LeO.ite ?_ ?_
      | refine LeO.bind ?_ (fun _ => ?_)
set_option maxHeartbeats 8000000 in
set_option maxRecDepth 100000 in
theorem impl_SoilStep.calls (k : Nat) (a0_0 : Int) (a0_1 : Int) (a0_2 : Int) (a0_3 : Int) (a0_4 : Int) (a1 : Int) (a2 : Int) (r1 : Int) (r2 : Int) (r3 : Int) (r4 : Int) (r5 : Int) (r6 : Bool) (w : World) (h : impl_SoilStep.f k a0_0 a0_1 a0_2 a0_3 a0_4 a1 a2 = some (r1, r2, r3, r4, r5, r6)) :
    Calls Try.prog 24 #[.agg #[.int .i64 a0_0, .int .i64 a0_1, .int .i64 a0_2, .int .i64 a0_3, .int .i64 a0_4], .int .i64 a1, .int .i64 a2] w fun e w' => e = .returned (.tuple #[.agg #[.int .i64 r1, .int .i64 r2, .int .i64 r3, .int .i64 r4, .int .i64 r5], .bool r6]) ∧ Below w.heap.size w w' := by
  have hu37 := Try.underlying37
  have HB := Aside0.mk (Below.refl w.heap.size w)
  have H : ((impl_soilOk.f k a0_0 a0_1 a0_2 a0_3 a0_4).bind fun t123 => (if t123 = true then ((impl_in.f a1 (-800) 800).bind fun t124 => (if t124 = true then ((impl_in.f a2 0 5000).bind fun t125 => (if t125 = true then (impl_SoilStep.j0 k a1 a2 (decide (a0_4 > (wrap64 (1000000000000 - a2)))) a0_0 a0_1 a0_2 a0_3 a0_4) else (impl_SoilStep.j0 k a1 a2 true a0_0 a0_1 a0_2 a0_3 a0_4))) else (impl_SoilStep.j0 k a1 a2 true a0_0 a0_1 a0_2 a0_3 a0_4))) else (impl_SoilStep.j0 k a1 a2 true a0_0 a0_1 a0_2 a0_3 a0_4))) = some (r1, r2, r3, r4, r5, r6) := h
  clear h
  have HC4 := Aside0.mk H
  clear H
  go_enter Try.func24, Try.ntmps24
  go_upto_region 1 with (first | ((with_reducible refine gate_dst (N := 3) rfl ?_); refine box_event ?hg (N := 3) ?hd (cs := #[.int .i64 a0_0, .int .i64 a0_1, .int .i64 a0_2, .int .i64 a0_3, .int .i64 a0_4]) (t := 37) ?hr ?_; (case hd => rfl); (case hg => rfl); (case hr => first | (go_simp; done) | (go_simp; rfl)); intro gb121 hg w5 hbox hb; have n0_ := Aside0.mk (below_step (by repeat (first | (with_reducible first | exact HB.out | apply below_alloc | apply pw_below_drewN | apply below_drew1) | exact HB.out)) hb); have n1_ := Aside0.mk (hbox); have n2_ := Aside0.mk ((by rw [hg]; exact (below_size (by repeat (first | (with_reducible first | exact HB.out | apply below_alloc | apply pw_below_drewN | apply below_drew1) | exact HB.out))) : w.heap.size ≤ gb121)); have n3_ := Aside0.mk ((by rw [hg]; exact (below_size (by repeat (first | (with_reducible first | exact HB.out | apply below_alloc | apply pw_below_drewN | apply below_drew1) | exact HB.out))) : w.heap.size ≤ gb121)); clear HB; have HB := n0_; have BK121 := n1_; have GW121 := n2_; have GE121 := n3_; clear n0_ n1_ n2_ n3_; clear hb hbox hg) | ((with_reducible refine gate_dst (N := 6) rfl ?_); refine box_event ?hg (N := 6) ?hd (cs := #[.int .i64 0, .int .i64 0, .int .i64 0, .int .i64 0, .int .i64 0]) (t := 37) ?hr ?_; (case hd => rfl); (case hg => rfl); (case hr => first | (go_simp; done) | (go_simp; rfl)); intro gb122 hg w6 hbox hb; have n0_ := Aside0.mk (blk_below (g := gb121) (o := .cells #[.int .i64 a0_0, .int .i64 a0_1, .int .i64 a0_2, .int .i64 a0_3, .int .i64 a0_4] 37 (0, 0)) (by (with_reducible repeat (first | refine blk_drewN ?_ _ | refine blk_drew ?_ | refine blk_alloc ?_ _)); exact BK121.out) hb); have n1_ := Aside0.mk (below_step (by repeat (first | (with_reducible first | exact HB.out | apply below_alloc | apply pw_below_drewN | apply below_drew1 | refine below_set ?_ GE121.out) | exact HB.out)) hb); have n2_ := Aside0.mk (hbox); have n3_ := Aside0.mk ((by rw [hg]; exact (below_size (by repeat (first | (with_reducible first | exact HB.out | apply below_alloc | apply pw_below_drewN | apply below_drew1 | refine below_set ?_ GE121.out) | exact HB.out))) : w.heap.size ≤ gb122)); have n4_ := Aside0.mk ((by rw [hg]; exact (below_size (by repeat (first | (with_reducible first | exact HB.out | apply below_alloc | apply pw_below_drewN | apply below_drew1 | refine below_set ?_ GE121.out) | exact HB.out))) : w.heap.size ≤ gb122)); have n5_ := Aside0.mk ((by rw [hg]; exact Nat.ne_of_lt (blk_lt (g := gb121) (o := .cells #[.int .i64 a0_0, .int .i64 a0_1, .int .i64 a0_2, .int .i64 a0_3, .int .i64 a0_4] 37 (0, 0)) (by (with_reducible repeat (first | refine blk_drewN ?_ _ | refine blk_drew ?_ | refine blk_alloc ?_ _)); exact BK121.out)) : gb121 ≠ gb122)); have n6_ := Aside0.mk ((by rw [hg]; exact Nat.ne_of_gt (blk_lt (g := gb121) (o := .cells #[.int .i64 a0_0, .int .i64 a0_1, .int .i64 a0_2, .int .i64 a0_3, .int .i64 a0_4] 37 (0, 0)) (by (with_reducible repeat (first | refine blk_drewN ?_ _ | refine blk_drew ?_ | refine blk_alloc ?_ _)); exact BK121.out)) : gb122 ≠ gb121)); clear BK121; clear HB; have BK121 := n0_; have HB := n1_; have BK122 := n2_; have GW122 := n3_; have GE122 := n4_; have NB121_122 := n5_; have NB122_121 := n6_; clear n0_ n1_ n2_ n3_ n4_ n5_ n6_; clear hb hbox hg))
  (try simp only [Act.put, List.setIfInBounds_toArray, List.set_cons_zero, List.set_cons_succ])
  go_cut [31] (fun v31 wc => ∃ (kq : Nat) (x31_3 : Bool), v31 = .bool x31_3 ∧ Aside0 (impl_SoilStep.j0 kq a1 a2 x31_3 a0_0 a0_1 a0_2 a0_3 a0_4 = some (r1, r2, r3, r4, r5, r6)) ∧ Aside0 (kq ≤ k) ∧ Aside0 (wc.heap[gb121]? = some (.cells #[.int .i64 a0_0, .int .i64 a0_1, .int .i64 a0_2, .int .i64 a0_3, .int .i64 a0_4] 37 (0, 0))) ∧ Aside0 (wc.heap[gb122]? = some (.cells #[.int .i64 0, .int .i64 0, .int .i64 0, .int .i64 0, .int .i64 0] 37 (0, 0))) ∧ Aside0 (Below w.heap.size w wc))
  case first =>
    have H := HC4.out
    clear HC4
    replace H := Option.bind_eq_some_iff.mp H
    obtain ⟨t123, A70, H⟩ := H
    replace H : (if t123 = true then ((impl_in.f a1 (-800) 800).bind fun t124 => (if t124 = true then ((impl_in.f a2 0 5000).bind fun t125 => (if t125 = true then (impl_SoilStep.j0 k a1 a2 (decide (a0_4 > (wrap64 (1000000000000 - a2)))) a0_0 a0_1 a0_2 a0_3 a0_4) else (impl_SoilStep.j0 k a1 a2 true a0_0 a0_1 a0_2 a0_3 a0_4))) else (impl_SoilStep.j0 k a1 a2 true a0_0 a0_1 a0_2 a0_3 a0_4))) else (impl_SoilStep.j0 k a1 a2 true a0_0 a0_1 a0_2 a0_3 a0_4)) = some (r1, r2, r3, r4, r5, r6) := H
    have A7 := Aside0.mk A70
    clear A70
    by_cases c8 : t123 = true
    · subst c8
      have H1 : ((impl_in.f a1 (-800) 800).bind fun t124 => (if t124 = true then ((impl_in.f a2 0 5000).bind fun t125 => (if t125 = true then (impl_SoilStep.j0 k a1 a2 (decide (a0_4 > (wrap64 (1000000000000 - a2)))) a0_0 a0_1 a0_2 a0_3 a0_4) else (impl_SoilStep.j0 k a1 a2 true a0_0 a0_1 a0_2 a0_3 a0_4))) else (impl_SoilStep.j0 k a1 a2 true a0_0 a0_1 a0_2 a0_3 a0_4))) = some (r1, r2, r3, r4, r5, r6) := by rw [if_pos rfl] at H; exact H
      clear H
      have H := H1
      clear H1
      replace H := Option.bind_eq_some_iff.mp H
      obtain ⟨t124, A90, H⟩ := H
      replace H : (if t124 = true then ((impl_in.f a2 0 5000).bind fun t125 => (if t125 = true then (impl_SoilStep.j0 k a1 a2 (decide (a0_4 > (wrap64 (1000000000000 - a2)))) a0_0 a0_1 a0_2 a0_3 a0_4) else (impl_SoilStep.j0 k a1 a2 true a0_0 a0_1 a0_2 a0_3 a0_4))) else (impl_SoilStep.j0 k a1 a2 true a0_0 a0_1 a0_2 a0_3 a0_4)) = some (r1, r2, r3, r4, r5, r6) := H
      have A9 := Aside0.mk A90
      clear A90
      by_cases c10 : t124 = true
      · subst c10
        have H1 : ((impl_in.f a2 0 5000).bind fun t125 => (if t125 = true then (impl_SoilStep.j0 k a1 a2 (decide (a0_4 > (wrap64 (1000000000000 - a2)))) a0_0 a0_1 a0_2 a0_3 a0_4) else (impl_SoilStep.j0 k a1 a2 true a0_0 a0_1 a0_2 a0_3 a0_4))) = some (r1, r2, r3, r4, r5, r6) := by rw [if_pos rfl] at H; exact H
        clear H
        have H := H1
        clear H1
        replace H := Option.bind_eq_some_iff.mp H
        obtain ⟨t125, A110, H⟩ := H
        replace H : (if t125 = true then (impl_SoilStep.j0 k a1 a2 (decide (a0_4 > (wrap64 (1000000000000 - a2)))) a0_0 a0_1 a0_2 a0_3 a0_4) else (impl_SoilStep.j0 k a1 a2 true a0_0 a0_1 a0_2 a0_3 a0_4)) = some (r1, r2, r3, r4, r5, r6) := H
        have A11 := Aside0.mk A110
        clear A110
        by_cases c12 : t125 = true
        · subst c12
          have H1 : (impl_SoilStep.j0 k a1 a2 (decide (a0_4 > (wrap64 (1000000000000 - a2)))) a0_0 a0_1 a0_2 a0_3 a0_4) = some (r1, r2, r3, r4, r5, r6) := by rw [if_pos rfl] at H; exact H
          clear H
          have H := H1
          clear H1
          have H' := Aside0.mk H
          clear H
          have hnb13 := NB121_122.out
          have hnc13 := NB122_121.out
          have hcz14_0 : w6.cell? ⟨gb121, 0, none⟩ = some (.int .i64 a0_0) := (blk_cell BK121.out 0).trans rfl
          have hcz14_1 : w6.cell? ⟨gb121, 1, none⟩ = some (.int .i64 a0_1) := (blk_cell BK121.out 1).trans rfl
          have hcz14_2 : w6.cell? ⟨gb121, 2, none⟩ = some (.int .i64 a0_2) := (blk_cell BK121.out 2).trans rfl
          have hcz14_3 : w6.cell? ⟨gb121, 3, none⟩ = some (.int .i64 a0_3) := (blk_cell BK121.out 3).trans rfl
          have hcz14_4 : w6.cell? ⟨gb121, 4, none⟩ = some (.int .i64 a0_4) := (blk_cell BK121.out 4).trans rfl
          have hfz14_0 := blk_frozen BK121.out 0
          have hfz14_1 := blk_frozen BK121.out 1
          have hfz14_2 := blk_frozen BK121.out 2
          have hfz14_3 := blk_frozen BK121.out 3
          have hfz14_4 := blk_frozen BK121.out 4
          go_wp2_with (first | ((with_reducible refine gate_callee (f := 50) rfl ?_); refine goesL_ (some 13) rfl rfl Try.func50 (by kernel_rfl) rfl #[.agg #[.int .i64 a0_0, .int .i64 a0_1, .int .i64 a0_2, .int .i64 a0_3, .int .i64 a0_4]] rfl (by (try simp only [List.map_toArray, List.map_cons, List.map_nil]); first | done | rfl | (simp only [List.length_drop, List.length_take]; rfl)) ?_; (with_reducible refine (impl_soilOk.calls k a0_0 a0_1 a0_2 a0_3 a0_4 true _ A7.out).mono ?_); rintro e w15 ⟨rfl, hb⟩; refine ⟨_, rfl, ?_⟩; have n0_ := Aside0.mk (blk_below (g := gb121) (o := .cells #[.int .i64 a0_0, .int .i64 a0_1, .int .i64 a0_2, .int .i64 a0_3, .int .i64 a0_4] 37 (0, 0)) (by (with_reducible repeat (first | refine blk_drewN ?_ _ | refine blk_drew ?_ | refine blk_alloc ?_ _)); exact BK121.out) hb); have n1_ := Aside0.mk (blk_below (g := gb122) (o := .cells #[.int .i64 0, .int .i64 0, .int .i64 0, .int .i64 0, .int .i64 0] 37 (0, 0)) (by (with_reducible repeat (first | refine blk_drewN ?_ _ | refine blk_drew ?_ | refine blk_alloc ?_ _)); exact BK122.out) hb); have n2_ := Aside0.mk (below_step (by repeat (first | (with_reducible first | exact HB.out | apply below_alloc | apply pw_below_drewN | apply below_drew1 | refine below_set ?_ GE121.out | refine below_set ?_ GE122.out) | exact HB.out)) hb); clear BK121; clear BK122; clear HB; have BK121 := n0_; have BK122 := n1_; have HB := n2_; clear n0_ n1_ n2_; (try clear hb); (try clear hb2); (try clear hk); (try clear hi)) | (go_at_call 51; (with_reducible refine (impl_in.calls a1 (-800) 800 true _ A9.out).mono ?_); rintro e w' ⟨rfl, ⟨nd, rfl⟩⟩) | (go_at_call 51; (with_reducible refine (impl_in.calls a2 0 5000 true _ A11.out).mono ?_); rintro e w' ⟨rfl, ⟨nd, rfl⟩⟩; have hcz16_0 : w15.cell? ⟨gb121, 0, none⟩ = some (.int .i64 a0_0) := (blk_cell BK121.out 0).trans rfl; have hcz16_1 : w15.cell? ⟨gb121, 1, none⟩ = some (.int .i64 a0_1) := (blk_cell BK121.out 1).trans rfl; have hcz16_2 : w15.cell? ⟨gb121, 2, none⟩ = some (.int .i64 a0_2) := (blk_cell BK121.out 2).trans rfl; have hcz16_3 : w15.cell? ⟨gb121, 3, none⟩ = some (.int .i64 a0_3) := (blk_cell BK121.out 3).trans rfl; have hcz16_4 : w15.cell? ⟨gb121, 4, none⟩ = some (.int .i64 a0_4) := (blk_cell BK121.out 4).trans rfl; have hfz16_0 := blk_frozen BK121.out 0; have hfz16_1 := blk_frozen BK121.out 1; have hfz16_2 := blk_frozen BK121.out 2; have hfz16_3 := blk_frozen BK121.out 3; have hfz16_4 := blk_frozen BK121.out 4))
          go_meet
          case rel => exact ⟨_, (decide (a0_4 > (wrap64 (1000000000000 - a2)))), (by first | rfl | (simp; done) | (simp [*]; done)), H', ⟨by first | omega | exact Nat.le_refl _⟩, ⟨by (with_reducible repeat (first | refine blk_drewN ?_ _ | refine blk_drew ?_ | refine blk_alloc ?_ _)); exact BK121.out⟩, ⟨by (with_reducible repeat (first | refine blk_drewN ?_ _ | refine blk_drew ?_ | refine blk_alloc ?_ _)); exact BK122.out⟩, ⟨by repeat (first | (with_reducible first | exact HB.out | apply below_alloc | apply pw_below_drewN | apply below_drew1 | refine below_set ?_ GE121.out | refine below_set ?_ GE122.out) | exact HB.out)⟩⟩
        · replace c12 := Bool.eq_false_iff.mpr c12
          subst c12
          have H1 : (impl_SoilStep.j0 k a1 a2 true a0_0 a0_1 a0_2 a0_3 a0_4) = some (r1, r2, r3, r4, r5, r6) := by rw [if_neg (show ¬ (false = true) by decide)] at H; exact H
          clear H
          have H := H1
          clear H1
          have H' := Aside0.mk H
          clear H
          have hnb17 := NB121_122.out
          have hnc17 := NB122_121.out
          have hcz18_0 : w6.cell? ⟨gb121, 0, none⟩ = some (.int .i64 a0_0) := (blk_cell BK121.out 0).trans rfl
          have hcz18_1 : w6.cell? ⟨gb121, 1, none⟩ = some (.int .i64 a0_1) := (blk_cell BK121.out 1).trans rfl
          have hcz18_2 : w6.cell? ⟨gb121, 2, none⟩ = some (.int .i64 a0_2) := (blk_cell BK121.out 2).trans rfl
          have hcz18_3 : w6.cell? ⟨gb121, 3, none⟩ = some (.int .i64 a0_3) := (blk_cell BK121.out 3).trans rfl
          have hcz18_4 : w6.cell? ⟨gb121, 4, none⟩ = some (.int .i64 a0_4) := (blk_cell BK121.out 4).trans rfl
          have hfz18_0 := blk_frozen BK121.out 0
          have hfz18_1 := blk_frozen BK121.out 1
          have hfz18_2 := blk_frozen BK121.out 2
          have hfz18_3 := blk_frozen BK121.out 3
          have hfz18_4 := blk_frozen BK121.out 4
          go_wp2_with (first | ((with_reducible refine gate_callee (f := 50) rfl ?_); refine goesL_ (some 13) rfl rfl Try.func50 (by kernel_rfl) rfl #[.agg #[.int .i64 a0_0, .int .i64 a0_1, .int .i64 a0_2, .int .i64 a0_3, .int .i64 a0_4]] rfl (by (try simp only [List.map_toArray, List.map_cons, List.map_nil]); first | done | rfl | (simp only [List.length_drop, List.length_take]; rfl)) ?_; (with_reducible refine (impl_soilOk.calls k a0_0 a0_1 a0_2 a0_3 a0_4 true _ A7.out).mono ?_); rintro e w19 ⟨rfl, hb⟩; refine ⟨_, rfl, ?_⟩; have n0_ := Aside0.mk (blk_below (g := gb121) (o := .cells #[.int .i64 a0_0, .int .i64 a0_1, .int .i64 a0_2, .int .i64 a0_3, .int .i64 a0_4] 37 (0, 0)) (by (with_reducible repeat (first | refine blk_drewN ?_ _ | refine blk_drew ?_ | refine blk_alloc ?_ _)); exact BK121.out) hb); have n1_ := Aside0.mk (blk_below (g := gb122) (o := .cells #[.int .i64 0, .int .i64 0, .int .i64 0, .int .i64 0, .int .i64 0] 37 (0, 0)) (by (with_reducible repeat (first | refine blk_drewN ?_ _ | refine blk_drew ?_ | refine blk_alloc ?_ _)); exact BK122.out) hb); have n2_ := Aside0.mk (below_step (by repeat (first | (with_reducible first | exact HB.out | apply below_alloc | apply pw_below_drewN | apply below_drew1 | refine below_set ?_ GE121.out | refine below_set ?_ GE122.out) | exact HB.out)) hb); clear BK121; clear BK122; clear HB; have BK121 := n0_; have BK122 := n1_; have HB := n2_; clear n0_ n1_ n2_; (try clear hb); (try clear hb2); (try clear hk); (try clear hi)) | (go_at_call 51; (with_reducible refine (impl_in.calls a1 (-800) 800 true _ A9.out).mono ?_); rintro e w' ⟨rfl, ⟨nd, rfl⟩⟩) | (go_at_call 51; (with_reducible refine (impl_in.calls a2 0 5000 false _ A11.out).mono ?_); rintro e w' ⟨rfl, ⟨nd, rfl⟩⟩))
          go_meet
          case rel => exact ⟨_, (true), (by first | rfl | (simp; done) | (simp [*]; done)), H', ⟨by first | omega | exact Nat.le_refl _⟩, ⟨by (with_reducible repeat (first | refine blk_drewN ?_ _ | refine blk_drew ?_ | refine blk_alloc ?_ _)); exact BK121.out⟩, ⟨by (with_reducible repeat (first | refine blk_drewN ?_ _ | refine blk_drew ?_ | refine blk_alloc ?_ _)); exact BK122.out⟩, ⟨by repeat (first | (with_reducible first | exact HB.out | apply below_alloc | apply pw_below_drewN | apply below_drew1 | refine below_set ?_ GE121.out | refine below_set ?_ GE122.out) | exact HB.out)⟩⟩
      · replace c10 := Bool.eq_false_iff.mpr c10
        subst c10
        have H1 : (impl_SoilStep.j0 k a1 a2 true a0_0 a0_1 a0_2 a0_3 a0_4) = some (r1, r2, r3, r4, r5, r6) := by rw [if_neg (show ¬ (false = true) by decide)] at H; exact H
        clear H
        have H := H1
        clear H1
        have H' := Aside0.mk H
        clear H
        have hnb20 := NB121_122.out
        have hnc20 := NB122_121.out
        have hcz21_0 : w6.cell? ⟨gb121, 0, none⟩ = some (.int .i64 a0_0) := (blk_cell BK121.out 0).trans rfl
        have hcz21_1 : w6.cell? ⟨gb121, 1, none⟩ = some (.int .i64 a0_1) := (blk_cell BK121.out 1).trans rfl
        have hcz21_2 : w6.cell? ⟨gb121, 2, none⟩ = some (.int .i64 a0_2) := (blk_cell BK121.out 2).trans rfl
        have hcz21_3 : w6.cell? ⟨gb121, 3, none⟩ = some (.int .i64 a0_3) := (blk_cell BK121.out 3).trans rfl
        have hcz21_4 : w6.cell? ⟨gb121, 4, none⟩ = some (.int .i64 a0_4) := (blk_cell BK121.out 4).trans rfl
        have hfz21_0 := blk_frozen BK121.out 0
        have hfz21_1 := blk_frozen BK121.out 1
        have hfz21_2 := blk_frozen BK121.out 2
        have hfz21_3 := blk_frozen BK121.out 3
        have hfz21_4 := blk_frozen BK121.out 4
        go_wp2_with (first | ((with_reducible refine gate_callee (f := 50) rfl ?_); refine goesL_ (some 13) rfl rfl Try.func50 (by kernel_rfl) rfl #[.agg #[.int .i64 a0_0, .int .i64 a0_1, .int .i64 a0_2, .int .i64 a0_3, .int .i64 a0_4]] rfl (by (try simp only [List.map_toArray, List.map_cons, List.map_nil]); first | done | rfl | (simp only [List.length_drop, List.length_take]; rfl)) ?_; (with_reducible refine (impl_soilOk.calls k a0_0 a0_1 a0_2 a0_3 a0_4 true _ A7.out).mono ?_); rintro e w22 ⟨rfl, hb⟩; refine ⟨_, rfl, ?_⟩; have n0_ := Aside0.mk (blk_below (g := gb121) (o := .cells #[.int .i64 a0_0, .int .i64 a0_1, .int .i64 a0_2, .int .i64 a0_3, .int .i64 a0_4] 37 (0, 0)) (by (with_reducible repeat (first | refine blk_drewN ?_ _ | refine blk_drew ?_ | refine blk_alloc ?_ _)); exact BK121.out) hb); have n1_ := Aside0.mk (blk_below (g := gb122) (o := .cells #[.int .i64 0, .int .i64 0, .int .i64 0, .int .i64 0, .int .i64 0] 37 (0, 0)) (by (with_reducible repeat (first | refine blk_drewN ?_ _ | refine blk_drew ?_ | refine blk_alloc ?_ _)); exact BK122.out) hb); have n2_ := Aside0.mk (below_step (by repeat (first | (with_reducible first | exact HB.out | apply below_alloc | apply pw_below_drewN | apply below_drew1 | refine below_set ?_ GE121.out | refine below_set ?_ GE122.out) | exact HB.out)) hb); clear BK121; clear BK122; clear HB; have BK121 := n0_; have BK122 := n1_; have HB := n2_; clear n0_ n1_ n2_; (try clear hb); (try clear hb2); (try clear hk); (try clear hi)) | (go_at_call 51; (with_reducible refine (impl_in.calls a1 (-800) 800 false _ A9.out).mono ?_); rintro e w' ⟨rfl, ⟨nd, rfl⟩⟩))
        go_meet
        case rel => exact ⟨_, (true), (by first | rfl | (simp; done) | (simp [*]; done)), H', ⟨by first | omega | exact Nat.le_refl _⟩, ⟨by (with_reducible repeat (first | refine blk_drewN ?_ _ | refine blk_drew ?_ | refine blk_alloc ?_ _)); exact BK121.out⟩, ⟨by (with_reducible repeat (first | refine blk_drewN ?_ _ | refine blk_drew ?_ | refine blk_alloc ?_ _)); exact BK122.out⟩, ⟨by repeat (first | (with_reducible first | exact HB.out | apply below_alloc | apply pw_below_drewN | apply below_drew1 | refine below_set ?_ GE121.out | refine below_set ?_ GE122.out) | exact HB.out)⟩⟩
    · replace c8 := Bool.eq_false_iff.mpr c8
      subst c8
      have H1 : (impl_SoilStep.j0 k a1 a2 true a0_0 a0_1 a0_2 a0_3 a0_4) = some (r1, r2, r3, r4, r5, r6) := by rw [if_neg (show ¬ (false = true) by decide)] at H; exact H
      clear H
      have H := H1
      clear H1
      have H' := Aside0.mk H
      clear H
      have hnb23 := NB121_122.out
      have hnc23 := NB122_121.out
      have hcz24_0 : w6.cell? ⟨gb121, 0, none⟩ = some (.int .i64 a0_0) := (blk_cell BK121.out 0).trans rfl
      have hcz24_1 : w6.cell? ⟨gb121, 1, none⟩ = some (.int .i64 a0_1) := (blk_cell BK121.out 1).trans rfl
      have hcz24_2 : w6.cell? ⟨gb121, 2, none⟩ = some (.int .i64 a0_2) := (blk_cell BK121.out 2).trans rfl
      have hcz24_3 : w6.cell? ⟨gb121, 3, none⟩ = some (.int .i64 a0_3) := (blk_cell BK121.out 3).trans rfl
      have hcz24_4 : w6.cell? ⟨gb121, 4, none⟩ = some (.int .i64 a0_4) := (blk_cell BK121.out 4).trans rfl
      have hfz24_0 := blk_frozen BK121.out 0
      have hfz24_1 := blk_frozen BK121.out 1
      have hfz24_2 := blk_frozen BK121.out 2
      have hfz24_3 := blk_frozen BK121.out 3
      have hfz24_4 := blk_frozen BK121.out 4
      go_wp2_with (first | ((with_reducible refine gate_callee (f := 50) rfl ?_); refine goesL_ (some 13) rfl rfl Try.func50 (by kernel_rfl) rfl #[.agg #[.int .i64 a0_0, .int .i64 a0_1, .int .i64 a0_2, .int .i64 a0_3, .int .i64 a0_4]] rfl (by (try simp only [List.map_toArray, List.map_cons, List.map_nil]); first | done | rfl | (simp only [List.length_drop, List.length_take]; rfl)) ?_; (with_reducible refine (impl_soilOk.calls k a0_0 a0_1 a0_2 a0_3 a0_4 false _ A7.out).mono ?_); rintro e w25 ⟨rfl, hb⟩; refine ⟨_, rfl, ?_⟩; have n0_ := Aside0.mk (blk_below (g := gb121) (o := .cells #[.int .i64 a0_0, .int .i64 a0_1, .int .i64 a0_2, .int .i64 a0_3, .int .i64 a0_4] 37 (0, 0)) (by (with_reducible repeat (first | refine blk_drewN ?_ _ | refine blk_drew ?_ | refine blk_alloc ?_ _)); exact BK121.out) hb); have n1_ := Aside0.mk (blk_below (g := gb122) (o := .cells #[.int .i64 0, .int .i64 0, .int .i64 0, .int .i64 0, .int .i64 0] 37 (0, 0)) (by (with_reducible repeat (first | refine blk_drewN ?_ _ | refine blk_drew ?_ | refine blk_alloc ?_ _)); exact BK122.out) hb); have n2_ := Aside0.mk (below_step (by repeat (first | (with_reducible first | exact HB.out | apply below_alloc | apply pw_below_drewN | apply below_drew1 | refine below_set ?_ GE121.out | refine below_set ?_ GE122.out) | exact HB.out)) hb); clear BK121; clear BK122; clear HB; have BK121 := n0_; have BK122 := n1_; have HB := n2_; clear n0_ n1_ n2_; (try clear hb); (try clear hb2); (try clear hk); (try clear hi)))
      go_meet
      case rel => exact ⟨_, (true), (by first | rfl | (simp; done) | (simp [*]; done)), H', ⟨by first | omega | exact Nat.le_refl _⟩, ⟨by (with_reducible repeat (first | refine blk_drewN ?_ _ | refine blk_drew ?_ | refine blk_alloc ?_ _)); exact BK121.out⟩, ⟨by (with_reducible repeat (first | refine blk_drewN ?_ _ | refine blk_drew ?_ | refine blk_alloc ?_ _)); exact BK122.out⟩, ⟨by repeat (first | (with_reducible first | exact HB.out | apply below_alloc | apply pw_below_drewN | apply below_drew1 | refine below_set ?_ GE121.out | refine below_set ?_ GE122.out) | exact HB.out)⟩⟩
  case rest =>
    clear HC4
    try clear c1
    try clear c2
    try clear p2
    try clear c5
    try clear p6
    try clear c8
    try clear c10
    try clear c12
    try clear c13
    try clear c17
    try clear c20
    try clear c23
    try clear c24
    try clear hcz14_0
    try clear hcz14_1
    try clear hcz14_2
    try clear hcz14_3
    try clear hcz14_4
    try clear hcz16_0
    try clear hcz16_1
    try clear hcz16_2
    try clear hcz16_3
    try clear hcz16_4
    try clear hcz18_0
    try clear hcz18_1
    try clear hcz18_2
    try clear hcz18_3
    try clear hcz18_4
    try clear hcz21_0
    try clear hcz21_1
    try clear hcz21_2
    try clear hcz21_3
    try clear hcz21_4
    try clear hcz24_0
    try clear hcz24_1
    try clear hcz24_2
    try clear hcz24_3
    try clear hcz24_4
    try clear hfz14_0
    try clear hfz14_1
    try clear hfz14_2
    try clear hfz14_3
    try clear hfz14_4
    try clear hfz16_0
    try clear hfz16_1
    try clear hfz16_2
    try clear hfz16_3
    try clear hfz16_4
    try clear hfz18_0
    try clear hfz18_1
    try clear hfz18_2
    try clear hfz18_3
    try clear hfz18_4
    try clear hfz21_0
    try clear hfz21_1
    try clear hfz21_2
    try clear hfz21_3
    try clear hfz21_4
    try clear hfz24_0
    try clear hfz24_1
    try clear hfz24_2
    try clear hfz24_3
    try clear hfz24_4
    obtain ⟨kq, x31_3, rfl, HA, HJ3, BK121, BK122, HB⟩ := hcut
    cases kq with
    | zero => exact absurd HA.out (by simp [impl_SoilStep.j0])
    | succ kj3 =>
      have H := HA.out
      clear HA
      simp only [impl_SoilStep.j0] at H
      by_cases c26 : x31_3 = true
      · subst c26
        have H1 : (some (0, 0, 0, 0, 0, false)) = some (r1, r2, r3, r4, r5, r6) := by rw [if_pos rfl] at H; exact H
        clear H
        have H := H1
        clear H1
        simp only [Option.some.injEq, Prod.mk.injEq] at H
        obtain ⟨rfl, rfl, rfl, rfl, rfl, rfl⟩ := H
        have hnb27 := NB122_121.out
        have hnc27 := NB121_122.out
        have hcz28_0 : wc.cell? ⟨gb122, 0, none⟩ = some (.int .i64 0) := (blk_cell BK122.out 0).trans rfl
        have hcz28_1 : wc.cell? ⟨gb122, 1, none⟩ = some (.int .i64 0) := (blk_cell BK122.out 1).trans rfl
        have hcz28_2 : wc.cell? ⟨gb122, 2, none⟩ = some (.int .i64 0) := (blk_cell BK122.out 2).trans rfl
        have hcz28_3 : wc.cell? ⟨gb122, 3, none⟩ = some (.int .i64 0) := (blk_cell BK122.out 3).trans rfl
        have hcz28_4 : wc.cell? ⟨gb122, 4, none⟩ = some (.int .i64 0) := (blk_cell BK122.out 4).trans rfl
        have hfz28_0 := blk_frozen BK122.out 0
        have hfz28_1 := blk_frozen BK122.out 1
        have hfz28_2 := blk_frozen BK122.out 2
        have hfz28_3 := blk_frozen BK122.out 3
        have hfz28_4 := blk_frozen BK122.out 4
        go_wp2
        refine bodyPost_ret (results_ct rfl _ _ gb122 37 #[.int .i64 0, .int .i64 0, .int .i64 0, .int .i64 0, .int .i64 0] (0, 0) _ rfl (by (with_reducible repeat (first | refine blk_drewN ?_ _ | refine blk_drew ?_ | refine blk_alloc ?_ _)); refine blk_put (cs := #[.int .i64 0, .int .i64 0, .int .i64 0, .int .i64 0, .int .i64 0]) ?_ 4 _ rfl; (with_reducible repeat (first | refine blk_drewN ?_ _ | refine blk_drew ?_ | refine blk_alloc ?_ _)); refine blk_put (cs := #[.int .i64 0, .int .i64 0, .int .i64 0, .int .i64 0, .int .i64 0]) ?_ 3 _ rfl; (with_reducible repeat (first | refine blk_drewN ?_ _ | refine blk_drew ?_ | refine blk_alloc ?_ _)); refine blk_put (cs := #[.int .i64 0, .int .i64 0, .int .i64 0, .int .i64 0, .int .i64 0]) ?_ 2 _ rfl; (with_reducible repeat (first | refine blk_drewN ?_ _ | refine blk_drew ?_ | refine blk_alloc ?_ _)); refine blk_put (cs := #[.int .i64 0, .int .i64 0, .int .i64 0, .int .i64 0, .int .i64 0]) ?_ 1 _ rfl; (with_reducible repeat (first | refine blk_drewN ?_ _ | refine blk_drew ?_ | refine blk_alloc ?_ _)); refine blk_put (cs := #[.int .i64 0, .int .i64 0, .int .i64 0, .int .i64 0, .int .i64 0]) ?_ 0 _ rfl; (with_reducible repeat (first | refine blk_drewN ?_ _ | refine blk_drew ?_ | refine blk_alloc ?_ _)); exact BK122.out) Try.underlying37 rfl (by kernel_rfl)) rfl ?_
        exact ⟨by first | rfl | (simp [errW_none, errW_some] <;> rfl) | (simp [*, errW_none, errW_some] <;> rfl), by repeat (first | (with_reducible first | exact HB.out | apply below_alloc | apply pw_below_drewN | apply below_drew1 | refine below_set ?_ GE121.out | refine below_set ?_ GE122.out) | exact HB.out)⟩
      · replace c26 := Bool.eq_false_iff.mpr c26
        subst c26
        have H1 : (if a1 < 0 then (impl_SoilStep.j1 kj3 a1 (wrap64 (a0_0 + a2)) a0_1 a0_2 a0_3 (wrap64 (a0_4 + a2))) else (impl_SoilStep.j1 kj3 a1 a0_0 (wrap64 (a0_1 + a2)) a0_2 a0_3 (wrap64 (a0_4 + a2)))) = some (r1, r2, r3, r4, r5, r6) := by rw [if_neg (show ¬ (false = true) by decide)] at H; exact H
        clear H
        have H := H1
        clear H1
        have HC29 := Aside0.mk H
        clear H
        have hnb30 := NB121_122.out
        have hnc30 := NB122_121.out
        have hcz31_0 : wc.cell? ⟨gb121, 0, none⟩ = some (.int .i64 a0_0) := (blk_cell BK121.out 0).trans rfl
        have hcz31_1 : wc.cell? ⟨gb121, 1, none⟩ = some (.int .i64 a0_1) := (blk_cell BK121.out 1).trans rfl
        have hcz31_2 : wc.cell? ⟨gb121, 2, none⟩ = some (.int .i64 a0_2) := (blk_cell BK121.out 2).trans rfl
        have hcz31_3 : wc.cell? ⟨gb121, 3, none⟩ = some (.int .i64 a0_3) := (blk_cell BK121.out 3).trans rfl
        have hcz31_4 : wc.cell? ⟨gb121, 4, none⟩ = some (.int .i64 a0_4) := (blk_cell BK121.out 4).trans rfl
        have hfz31_0 := blk_frozen BK121.out 0
        have hfz31_1 := blk_frozen BK121.out 1
        have hfz31_2 := blk_frozen BK121.out 2
        have hfz31_3 := blk_frozen BK121.out 3
        have hfz31_4 := blk_frozen BK121.out 4
        go_upto_if 39 with (fail)
        go_cut [] (fun wc => ∃ (kq : Nat) (x122000_28 : Int) (x122001_28 : Int), Aside0 (impl_SoilStep.j1 kq a1 x122000_28 x122001_28 a0_2 a0_3 (wrap64 (a0_4 + a2)) = some (r1, r2, r3, r4, r5, r6)) ∧ Aside0 (kq ≤ kj3) ∧ Aside0 (wc.heap[gb121]? = some (.cells #[.int .i64 x122000_28, .int .i64 x122001_28, .int .i64 a0_2, .int .i64 a0_3, .int .i64 (wrap64 (a0_4 + a2))] 37 (0, 0))) ∧ Aside0 (wc.heap[gb122]? = some (.cells #[.int .i64 0, .int .i64 0, .int .i64 0, .int .i64 0, .int .i64 0] 37 (0, 0))) ∧ Aside0 (Below w.heap.size w wc))
        case first =>
          have H := HC29.out
          clear HC29
          by_cases c32 : a1 < 0
          · rw [if_pos c32] at H
            have c32b0 : decide (a1 < 0) = true := decide_eq_true c32
            clear c32
            (first | rw [c32b0] | (simp only [i64_w, i32_w]; rw [c32b0]) | skip)
            have H' := Aside0.mk H
            clear H
            have hnb33 := NB121_122.out
            have hnc33 := NB122_121.out
            have hcz34_0 : wc.cell? ⟨gb121, 0, none⟩ = some (.int .i64 a0_0) := (blk_cell BK121.out 0).trans rfl
            have hcz34_1 : wc.cell? ⟨gb121, 1, none⟩ = some (.int .i64 a0_1) := (blk_cell BK121.out 1).trans rfl
            have hcz34_2 : wc.cell? ⟨gb121, 2, none⟩ = some (.int .i64 a0_2) := (blk_cell BK121.out 2).trans rfl
            have hcz34_3 : wc.cell? ⟨gb121, 3, none⟩ = some (.int .i64 a0_3) := (blk_cell BK121.out 3).trans rfl
            have hcz34_4 : wc.cell? ⟨gb121, 4, none⟩ = some (.int .i64 a0_4) := (blk_cell BK121.out 4).trans rfl
            have hfz34_0 := blk_frozen BK121.out 0
            have hfz34_1 := blk_frozen BK121.out 1
            have hfz34_2 := blk_frozen BK121.out 2
            have hfz34_3 := blk_frozen BK121.out 3
            have hfz34_4 := blk_frozen BK121.out 4
            go_wp2
            go_meet
            case rel => exact ⟨_, (wrap64 (a0_0 + a2)), (a0_1), H', ⟨by have := HJ3.out; first | omega | exact Nat.le_refl _⟩, ⟨by (with_reducible repeat (first | refine blk_drewN ?_ _ | refine blk_drew ?_ | refine blk_alloc ?_ _)); refine blk_put (cs := #[.int .i64 a0_0, .int .i64 a0_1, .int .i64 a0_2, .int .i64 a0_3, .int .i64 (wrap64 (a0_4 + a2))]) ?_ 0 _ rfl; (with_reducible repeat (first | refine blk_drewN ?_ _ | refine blk_drew ?_ | refine blk_alloc ?_ _)); refine blk_put (cs := #[.int .i64 a0_0, .int .i64 a0_1, .int .i64 a0_2, .int .i64 a0_3, .int .i64 a0_4]) ?_ 4 _ rfl; (with_reducible repeat (first | refine blk_drewN ?_ _ | refine blk_drew ?_ | refine blk_alloc ?_ _)); exact BK121.out⟩, ⟨by (with_reducible repeat (first | refine blk_drewN ?_ _ | refine blk_drew ?_ | refine blk_alloc ?_ _)); refine blk_far ?_ NB122_121.out _; (with_reducible repeat (first | refine blk_drewN ?_ _ | refine blk_drew ?_ | refine blk_alloc ?_ _)); refine blk_far ?_ NB122_121.out _; (with_reducible repeat (first | refine blk_drewN ?_ _ | refine blk_drew ?_ | refine blk_alloc ?_ _)); exact BK122.out⟩, ⟨by repeat (first | (with_reducible first | exact HB.out | apply below_alloc | apply pw_below_drewN | apply below_drew1 | refine below_set ?_ GE121.out | refine below_set ?_ GE122.out) | exact HB.out)⟩⟩
          · rw [if_neg c32] at H
            have c32b0 : decide (a1 < 0) = false := decide_eq_false c32
            clear c32
            (first | rw [c32b0] | (simp only [i64_w, i32_w]; rw [c32b0]) | skip)
            have H' := Aside0.mk H
            clear H
            have hnb35 := NB121_122.out
            have hnc35 := NB122_121.out
            have hcz36_0 : wc.cell? ⟨gb121, 0, none⟩ = some (.int .i64 a0_0) := (blk_cell BK121.out 0).trans rfl
            have hcz36_1 : wc.cell? ⟨gb121, 1, none⟩ = some (.int .i64 a0_1) := (blk_cell BK121.out 1).trans rfl
            have hcz36_2 : wc.cell? ⟨gb121, 2, none⟩ = some (.int .i64 a0_2) := (blk_cell BK121.out 2).trans rfl
            have hcz36_3 : wc.cell? ⟨gb121, 3, none⟩ = some (.int .i64 a0_3) := (blk_cell BK121.out 3).trans rfl
            have hcz36_4 : wc.cell? ⟨gb121, 4, none⟩ = some (.int .i64 a0_4) := (blk_cell BK121.out 4).trans rfl
            have hfz36_0 := blk_frozen BK121.out 0
            have hfz36_1 := blk_frozen BK121.out 1
            have hfz36_2 := blk_frozen BK121.out 2
            have hfz36_3 := blk_frozen BK121.out 3
            have hfz36_4 := blk_frozen BK121.out 4
            go_wp2
            go_meet
            case rel => exact ⟨_, (a0_0), (wrap64 (a0_1 + a2)), H', ⟨by have := HJ3.out; first | omega | exact Nat.le_refl _⟩, ⟨by (with_reducible repeat (first | refine blk_drewN ?_ _ | refine blk_drew ?_ | refine blk_alloc ?_ _)); refine blk_put (cs := #[.int .i64 a0_0, .int .i64 a0_1, .int .i64 a0_2, .int .i64 a0_3, .int .i64 (wrap64 (a0_4 + a2))]) ?_ 1 _ rfl; (with_reducible repeat (first | refine blk_drewN ?_ _ | refine blk_drew ?_ | refine blk_alloc ?_ _)); refine blk_put (cs := #[.int .i64 a0_0, .int .i64 a0_1, .int .i64 a0_2, .int .i64 a0_3, .int .i64 a0_4]) ?_ 4 _ rfl; (with_reducible repeat (first | refine blk_drewN ?_ _ | refine blk_drew ?_ | refine blk_alloc ?_ _)); exact BK121.out⟩, ⟨by (with_reducible repeat (first | refine blk_drewN ?_ _ | refine blk_drew ?_ | refine blk_alloc ?_ _)); refine blk_far ?_ NB122_121.out _; (with_reducible repeat (first | refine blk_drewN ?_ _ | refine blk_drew ?_ | refine blk_alloc ?_ _)); refine blk_far ?_ NB122_121.out _; (with_reducible repeat (first | refine blk_drewN ?_ _ | refine blk_drew ?_ | refine blk_alloc ?_ _)); exact BK122.out⟩, ⟨by repeat (first | (with_reducible first | exact HB.out | apply below_alloc | apply pw_below_drewN | apply below_drew1 | refine below_set ?_ GE121.out | refine below_set ?_ GE122.out) | exact HB.out)⟩⟩
        case rest =>
          clear HC29
          try clear c1
          try clear c2
          try clear p2
          try clear c3
          try clear c5
          try clear p6
          try clear c8
          try clear c10
          try clear c12
          try clear c13
          try clear c17
          try clear c20
          try clear c23
          try clear c24
          try clear c26
          try clear c27
          try clear c30
          try clear c32
          try clear c32b0
          try clear c33
          try clear c35
          try clear hcz14_0
          try clear hcz14_1
          try clear hcz14_2
          try clear hcz14_3
          try clear hcz14_4
          try clear hcz16_0
          try clear hcz16_1
          try clear hcz16_2
          try clear hcz16_3
          try clear hcz16_4
          try clear hcz18_0
          try clear hcz18_1
          try clear hcz18_2
          try clear hcz18_3
          try clear hcz18_4
          try clear hcz21_0
          try clear hcz21_1
          try clear hcz21_2
          try clear hcz21_3
          try clear hcz21_4
          try clear hcz24_0
          try clear hcz24_1
          try clear hcz24_2
          try clear hcz24_3
          try clear hcz24_4
          try clear hcz28_0
          try clear hcz28_1
          try clear hcz28_2
          try clear hcz28_3
          try clear hcz28_4
          try clear hcz31_0
          try clear hcz31_1
          try clear hcz31_2
          try clear hcz31_3
          try clear hcz31_4
          try clear hcz34_0
          try clear hcz34_1
          try clear hcz34_2
          try clear hcz34_3
          try clear hcz34_4
          try clear hcz36_0
          try clear hcz36_1
          try clear hcz36_2
          try clear hcz36_3
          try clear hcz36_4
          try clear hfz14_0
          try clear hfz14_1
          try clear hfz14_2
          try clear hfz14_3
          try clear hfz14_4
          try clear hfz16_0
          try clear hfz16_1
          try clear hfz16_2
          try clear hfz16_3
          try clear hfz16_4
          try clear hfz18_0
          try clear hfz18_1
          try clear hfz18_2
          try clear hfz18_3
          try clear hfz18_4
          try clear hfz21_0
          try clear hfz21_1
          try clear hfz21_2
          try clear hfz21_3
          try clear hfz21_4
          try clear hfz24_0
          try clear hfz24_1
          try clear hfz24_2
          try clear hfz24_3
          try clear hfz24_4
          try clear hfz28_0
          try clear hfz28_1
          try clear hfz28_2
          try clear hfz28_3
          try clear hfz28_4
          try clear hfz31_0
          try clear hfz31_1
          try clear hfz31_2
          try clear hfz31_3
          try clear hfz31_4
          try clear hfz34_0
          try clear hfz34_1
          try clear hfz34_2
          try clear hfz34_3
          try clear hfz34_4
          try clear hfz36_0
          try clear hfz36_1
          try clear hfz36_2
          try clear hfz36_3
          try clear hfz36_4
          try clear p2
          try clear p6
          obtain ⟨kq, x122000_28, x122001_28, HA, HJ28, BK121, BK122, HB⟩ := hcut
          cases kq with
          | zero => exact absurd HA.out (by simp [impl_SoilStep.j1])
          | succ kj28 =>
            have H := HA.out
            clear HA
            simp only [impl_SoilStep.j1] at H
            have HC37 := Aside0.mk H
            clear H
            go_upto_if 51 with (fail)
            go_cut [] (fun wc => ∃ (kq : Nat) (x122000_36 : Int) (x122001_36 : Int) (x122003_36 : Int), Aside0 (impl_SoilStep.j2 kq x122000_36 x122001_36 a0_2 x122003_36 (wrap64 (a0_4 + a2)) = some (r1, r2, r3, r4, r5, r6)) ∧ Aside0 (kq ≤ kj28) ∧ Aside0 (wc.heap[gb121]? = some (.cells #[.int .i64 x122000_36, .int .i64 x122001_36, .int .i64 a0_2, .int .i64 x122003_36, .int .i64 (wrap64 (a0_4 + a2))] 37 (0, 0))) ∧ Aside0 (wc.heap[gb122]? = some (.cells #[.int .i64 0, .int .i64 0, .int .i64 0, .int .i64 0, .int .i64 0] 37 (0, 0))) ∧ Aside0 (Below w.heap.size w wc))
            case first =>
              have H := HC37.out
              clear HC37
              by_cases c38 : a1 > 0
              · rw [if_pos c38] at H
                have c38b0 : decide (0 < a1) = true := decide_eq_true c38
                clear c38
                (first | rw [c38b0] | (simp only [i64_w, i32_w]; rw [c38b0]) | skip)
                obtain ⟨ji39, hji39⟩ : ∃ j_ : Int, (mn x122000_28 (wrap64 (Int.tdiv (wrap64 (3 * a1)) 10))) = j_ := ⟨_, rfl⟩
                replace H : (impl_SoilStep.j2 kj28 (wrap64 (x122000_28 - (ji39))) (wrap64 ((wrap64 (x122001_28 + (ji39))) - (mn (wrap64 (x122001_28 + (ji39))) (wrap64 (Int.tdiv a1 20))))) a0_2 (wrap64 (a0_3 + (mn (wrap64 (x122001_28 + (ji39))) (wrap64 (Int.tdiv a1 20))))) (wrap64 (a0_4 + a2))) = some (r1, r2, r3, r4, r5, r6) := by first | (rw [hji39] at H; exact H) | (simp only [hji39] at H ⊢; exact H)
                have hji39_ : (if (wrap64 (Int.tdiv (wrap64 (3 * a1)) 10)) < x122000_28 then (wrap64 (Int.tdiv (wrap64 (3 * a1)) 10)) else x122000_28) = ji39 := hji39
                obtain ⟨ji40, hji40⟩ : ∃ j_ : Int, (mn (wrap64 (x122001_28 + (ji39))) (wrap64 (Int.tdiv a1 20))) = j_ := ⟨_, rfl⟩
                replace H : (impl_SoilStep.j2 kj28 (wrap64 (x122000_28 - (ji39))) (wrap64 ((wrap64 (x122001_28 + (ji39))) - (ji40))) a0_2 (wrap64 (a0_3 + (ji40))) (wrap64 (a0_4 + a2))) = some (r1, r2, r3, r4, r5, r6) := by first | (rw [hji40] at H; exact H) | (simp only [hji40] at H ⊢; exact H)
                have hji40_ : (if (wrap64 (Int.tdiv a1 20)) < (wrap64 (x122001_28 + (ji39))) then (wrap64 (Int.tdiv a1 20)) else (wrap64 (x122001_28 + (ji39)))) = ji40 := hji40
                have H' := Aside0.mk H
                clear H
                have hnb41 := NB121_122.out
                have hnc41 := NB122_121.out
                have hcz42_0 : wc.cell? ⟨gb121, 0, none⟩ = some (.int .i64 x122000_28) := (blk_cell BK121.out 0).trans rfl
                have hcz42_1 : wc.cell? ⟨gb121, 1, none⟩ = some (.int .i64 x122001_28) := (blk_cell BK121.out 1).trans rfl
                have hcz42_2 : wc.cell? ⟨gb121, 2, none⟩ = some (.int .i64 a0_2) := (blk_cell BK121.out 2).trans rfl
                have hcz42_3 : wc.cell? ⟨gb121, 3, none⟩ = some (.int .i64 a0_3) := (blk_cell BK121.out 3).trans rfl
                have hcz42_4 : wc.cell? ⟨gb121, 4, none⟩ = some (.int .i64 (wrap64 (a0_4 + a2))) := (blk_cell BK121.out 4).trans rfl
                have hfz42_0 := blk_frozen BK121.out 0
                have hfz42_1 := blk_frozen BK121.out 1
                have hfz42_2 := blk_frozen BK121.out 2
                have hfz42_3 := blk_frozen BK121.out 3
                have hfz42_4 := blk_frozen BK121.out 4
                go_wp2
                go_meet
                case rel => exact ⟨_, (wrap64 (x122000_28 - (ji39))), (wrap64 ((wrap64 (x122001_28 + (ji39))) - (ji40))), (wrap64 (a0_3 + (ji40))), H', ⟨by have := HJ3.out; have := HJ28.out; first | omega | exact Nat.le_refl _⟩, ⟨by (with_reducible repeat (first | refine blk_drewN ?_ _ | refine blk_drew ?_ | refine blk_alloc ?_ _)); refine blk_put (cs := #[.int .i64 (wrap64 (x122000_28 - (ji39))), .int .i64 (wrap64 ((wrap64 (x122001_28 + (ji39))) - (ji40))), .int .i64 a0_2, .int .i64 a0_3, .int .i64 (wrap64 (a0_4 + a2))]) ?_ 3 _ rfl; (with_reducible repeat (first | refine blk_drewN ?_ _ | refine blk_drew ?_ | refine blk_alloc ?_ _)); refine blk_put (cs := #[.int .i64 (wrap64 (x122000_28 - (ji39))), .int .i64 (wrap64 (x122001_28 + (ji39))), .int .i64 a0_2, .int .i64 a0_3, .int .i64 (wrap64 (a0_4 + a2))]) ?_ 1 _ rfl; (with_reducible repeat (first | refine blk_drewN ?_ _ | refine blk_drew ?_ | refine blk_alloc ?_ _)); refine blk_put (cs := #[.int .i64 (wrap64 (x122000_28 - (ji39))), .int .i64 x122001_28, .int .i64 a0_2, .int .i64 a0_3, .int .i64 (wrap64 (a0_4 + a2))]) ?_ 1 _ rfl; (with_reducible repeat (first | refine blk_drewN ?_ _ | refine blk_drew ?_ | refine blk_alloc ?_ _)); refine blk_put (cs := #[.int .i64 x122000_28, .int .i64 x122001_28, .int .i64 a0_2, .int .i64 a0_3, .int .i64 (wrap64 (a0_4 + a2))]) ?_ 0 _ rfl; (with_reducible repeat (first | refine blk_drewN ?_ _ | refine blk_drew ?_ | refine blk_alloc ?_ _)); exact BK121.out⟩, ⟨by (with_reducible repeat (first | refine blk_drewN ?_ _ | refine blk_drew ?_ | refine blk_alloc ?_ _)); refine blk_far ?_ NB122_121.out _; (with_reducible repeat (first | refine blk_drewN ?_ _ | refine blk_drew ?_ | refine blk_alloc ?_ _)); refine blk_far ?_ NB122_121.out _; (with_reducible repeat (first | refine blk_drewN ?_ _ | refine blk_drew ?_ | refine blk_alloc ?_ _)); refine blk_far ?_ NB122_121.out _; (with_reducible repeat (first | refine blk_drewN ?_ _ | refine blk_drew ?_ | refine blk_alloc ?_ _)); refine blk_far ?_ NB122_121.out _; (with_reducible repeat (first | refine blk_drewN ?_ _ | refine blk_drew ?_ | refine blk_alloc ?_ _)); exact BK122.out⟩, ⟨by repeat (first | (with_reducible first | exact HB.out | apply below_alloc | apply pw_below_drewN | apply below_drew1 | refine below_set ?_ GE121.out | refine below_set ?_ GE122.out) | exact HB.out)⟩⟩
              · rw [if_neg c38] at H
                have c38b0 : decide (0 < a1) = false := decide_eq_false c38
                clear c38
                (first | rw [c38b0] | (simp only [i64_w, i32_w]; rw [c38b0]) | skip)
                have H' := Aside0.mk H
                clear H
                go_wp2
                go_meet
                case rel => exact ⟨_, (x122000_28), (x122001_28), (a0_3), H', ⟨by have := HJ3.out; have := HJ28.out; first | omega | exact Nat.le_refl _⟩, ⟨by (with_reducible repeat (first | refine blk_drewN ?_ _ | refine blk_drew ?_ | refine blk_alloc ?_ _)); exact BK121.out⟩, ⟨by (with_reducible repeat (first | refine blk_drewN ?_ _ | refine blk_drew ?_ | refine blk_alloc ?_ _)); exact BK122.out⟩, ⟨by repeat (first | (with_reducible first | exact HB.out | apply below_alloc | apply pw_below_drewN | apply below_drew1 | refine below_set ?_ GE121.out | refine below_set ?_ GE122.out) | exact HB.out)⟩⟩
            case rest =>
              clear HC37
              try clear c1
              try clear c2
              try clear p2
              try clear c3
              try clear c4
              try clear c5
              try clear p6
              try clear c8
              try clear c10
              try clear c12
              try clear c13
              try clear c17
              try clear c20
              try clear c23
              try clear c24
              try clear c26
              try clear c27
              try clear c30
              try clear c32
              try clear c32b0
              try clear c33
              try clear c35
              try clear c38
              try clear c38b0
              try clear c41
              try clear hcz14_0
              try clear hcz14_1
              try clear hcz14_2
              try clear hcz14_3
              try clear hcz14_4
              try clear hcz16_0
              try clear hcz16_1
              try clear hcz16_2
              try clear hcz16_3
              try clear hcz16_4
              try clear hcz18_0
              try clear hcz18_1
              try clear hcz18_2
              try clear hcz18_3
              try clear hcz18_4
              try clear hcz21_0
              try clear hcz21_1
              try clear hcz21_2
              try clear hcz21_3
              try clear hcz21_4
              try clear hcz24_0
              try clear hcz24_1
              try clear hcz24_2
              try clear hcz24_3
              try clear hcz24_4
              try clear hcz28_0
              try clear hcz28_1
              try clear hcz28_2
              try clear hcz28_3
              try clear hcz28_4
              try clear hcz31_0
              try clear hcz31_1
              try clear hcz31_2
              try clear hcz31_3
              try clear hcz31_4
              try clear hcz34_0
              try clear hcz34_1
              try clear hcz34_2
              try clear hcz34_3
              try clear hcz34_4
              try clear hcz36_0
              try clear hcz36_1
              try clear hcz36_2
              try clear hcz36_3
              try clear hcz36_4
              try clear hcz42_0
              try clear hcz42_1
              try clear hcz42_2
              try clear hcz42_3
              try clear hcz42_4
              try clear hfz14_0
              try clear hfz14_1
              try clear hfz14_2
              try clear hfz14_3
              try clear hfz14_4
              try clear hfz16_0
              try clear hfz16_1
              try clear hfz16_2
              try clear hfz16_3
              try clear hfz16_4
              try clear hfz18_0
              try clear hfz18_1
              try clear hfz18_2
              try clear hfz18_3
              try clear hfz18_4
              try clear hfz21_0
              try clear hfz21_1
              try clear hfz21_2
              try clear hfz21_3
              try clear hfz21_4
              try clear hfz24_0
              try clear hfz24_1
              try clear hfz24_2
              try clear hfz24_3
              try clear hfz24_4
              try clear hfz28_0
              try clear hfz28_1
              try clear hfz28_2
              try clear hfz28_3
              try clear hfz28_4
              try clear hfz31_0
              try clear hfz31_1
              try clear hfz31_2
              try clear hfz31_3
              try clear hfz31_4
              try clear hfz34_0
              try clear hfz34_1
              try clear hfz34_2
              try clear hfz34_3
              try clear hfz34_4
              try clear hfz36_0
              try clear hfz36_1
              try clear hfz36_2
              try clear hfz36_3
              try clear hfz36_4
              try clear hfz42_0
              try clear hfz42_1
              try clear hfz42_2
              try clear hfz42_3
              try clear hfz42_4
              try clear p2
              try clear p6
              obtain ⟨kq, x122000_36, x122001_36, x122003_36, HA, HJ36, BK121, BK122, HB⟩ := hcut
              cases kq with
              | zero => exact absurd HA.out (by simp [impl_SoilStep.j2])
              | succ kj36 =>
                have H := HA.out
                clear HA
                simp only [impl_SoilStep.j2] at H
                have HC43 := Aside0.mk H
                clear H
                have hnb44 := NB121_122.out
                have hnc44 := NB122_121.out
                have hcz45_0 : wc.cell? ⟨gb121, 0, none⟩ = some (.int .i64 x122000_36) := (blk_cell BK121.out 0).trans rfl
                have hcz45_1 : wc.cell? ⟨gb121, 1, none⟩ = some (.int .i64 x122001_36) := (blk_cell BK121.out 1).trans rfl
                have hcz45_2 : wc.cell? ⟨gb121, 2, none⟩ = some (.int .i64 a0_2) := (blk_cell BK121.out 2).trans rfl
                have hcz45_3 : wc.cell? ⟨gb121, 3, none⟩ = some (.int .i64 x122003_36) := (blk_cell BK121.out 3).trans rfl
                have hcz45_4 : wc.cell? ⟨gb121, 4, none⟩ = some (.int .i64 (wrap64 (a0_4 + a2))) := (blk_cell BK121.out 4).trans rfl
                have hfz45_0 := blk_frozen BK121.out 0
                have hfz45_1 := blk_frozen BK121.out 1
                have hfz45_2 := blk_frozen BK121.out 2
                have hfz45_3 := blk_frozen BK121.out 3
                have hfz45_4 := blk_frozen BK121.out 4
                go_upto_if 85 with (fail)
                go_cut [] (fun wc => ∃ (kq : Nat) (x122001_42 : Int) (x122002_42 : Int), Aside0 (impl_SoilStep.j3 kq x122000_36 x122001_42 x122002_42 x122003_36 (wrap64 (a0_4 + a2)) = some (r1, r2, r3, r4, r5, r6)) ∧ Aside0 (kq ≤ kj36) ∧ Aside0 (wc.heap[gb121]? = some (.cells #[.int .i64 x122000_36, .int .i64 x122001_42, .int .i64 x122002_42, .int .i64 x122003_36, .int .i64 (wrap64 (a0_4 + a2))] 37 (0, 0))) ∧ Aside0 (wc.heap[gb122]? = some (.cells #[.int .i64 0, .int .i64 0, .int .i64 0, .int .i64 0, .int .i64 0] 37 (0, 0))) ∧ Aside0 (Below w.heap.size w wc))
                case first =>
                  have H := HC43.out
                  clear HC43
                  by_cases c46 : x122001_36 > 100
                  · rw [if_pos c46] at H
                    have c46b0 : decide (100 < x122001_36) = true := decide_eq_true c46
                    clear c46
                    (first | rw [c46b0] | (simp only [i64_w, i32_w]; rw [c46b0]) | skip)
                    obtain ⟨ji47, hji47⟩ : ∃ j_ : Int, (mn (wrap64 (Int.tdiv (wrap64 (x122001_36 - 100)) 4)) (wrap64 (1500 - a0_2))) = j_ := ⟨_, rfl⟩
                    replace H : (impl_SoilStep.j3 kj36 x122000_36 (wrap64 (x122001_36 - (ji47))) (wrap64 (a0_2 + (ji47))) x122003_36 (wrap64 (a0_4 + a2))) = some (r1, r2, r3, r4, r5, r6) := by first | (rw [hji47] at H; exact H) | (simp only [hji47] at H ⊢; exact H)
                    have hji47_ : (if (wrap64 (1500 - a0_2)) < (wrap64 (Int.tdiv (wrap64 (x122001_36 - 100)) 4)) then (wrap64 (1500 - a0_2)) else (wrap64 (Int.tdiv (wrap64 (x122001_36 - 100)) 4))) = ji47 := hji47
                    have H' := Aside0.mk H
                    clear H
                    have hnb48 := NB121_122.out
                    have hnc48 := NB122_121.out
                    have hcz49_0 : wc.cell? ⟨gb121, 0, none⟩ = some (.int .i64 x122000_36) := (blk_cell BK121.out 0).trans rfl
                    have hcz49_1 : wc.cell? ⟨gb121, 1, none⟩ = some (.int .i64 x122001_36) := (blk_cell BK121.out 1).trans rfl
                    have hcz49_2 : wc.cell? ⟨gb121, 2, none⟩ = some (.int .i64 a0_2) := (blk_cell BK121.out 2).trans rfl
                    have hcz49_3 : wc.cell? ⟨gb121, 3, none⟩ = some (.int .i64 x122003_36) := (blk_cell BK121.out 3).trans rfl
                    have hcz49_4 : wc.cell? ⟨gb121, 4, none⟩ = some (.int .i64 (wrap64 (a0_4 + a2))) := (blk_cell BK121.out 4).trans rfl
                    have hfz49_0 := blk_frozen BK121.out 0
                    have hfz49_1 := blk_frozen BK121.out 1
                    have hfz49_2 := blk_frozen BK121.out 2
                    have hfz49_3 := blk_frozen BK121.out 3
                    have hfz49_4 := blk_frozen BK121.out 4
                    go_wp2
                    go_meet
                    case rel => exact ⟨_, (wrap64 (x122001_36 - (ji47))), (wrap64 (a0_2 + (ji47))), H', ⟨by have := HJ3.out; have := HJ28.out; have := HJ36.out; first | omega | exact Nat.le_refl _⟩, ⟨by (with_reducible repeat (first | refine blk_drewN ?_ _ | refine blk_drew ?_ | refine blk_alloc ?_ _)); refine blk_put (cs := #[.int .i64 x122000_36, .int .i64 (wrap64 (x122001_36 - (ji47))), .int .i64 a0_2, .int .i64 x122003_36, .int .i64 (wrap64 (a0_4 + a2))]) ?_ 2 _ rfl; (with_reducible repeat (first | refine blk_drewN ?_ _ | refine blk_drew ?_ | refine blk_alloc ?_ _)); refine blk_put (cs := #[.int .i64 x122000_36, .int .i64 x122001_36, .int .i64 a0_2, .int .i64 x122003_36, .int .i64 (wrap64 (a0_4 + a2))]) ?_ 1 _ rfl; (with_reducible repeat (first | refine blk_drewN ?_ _ | refine blk_drew ?_ | refine blk_alloc ?_ _)); exact BK121.out⟩, ⟨by (with_reducible repeat (first | refine blk_drewN ?_ _ | refine blk_drew ?_ | refine blk_alloc ?_ _)); refine blk_far ?_ NB122_121.out _; (with_reducible repeat (first | refine blk_drewN ?_ _ | refine blk_drew ?_ | refine blk_alloc ?_ _)); refine blk_far ?_ NB122_121.out _; (with_reducible repeat (first | refine blk_drewN ?_ _ | refine blk_drew ?_ | refine blk_alloc ?_ _)); exact BK122.out⟩, ⟨by repeat (first | (with_reducible first | exact HB.out | apply below_alloc | apply pw_below_drewN | apply below_drew1 | refine below_set ?_ GE121.out | refine below_set ?_ GE122.out) | exact HB.out)⟩⟩
                  · rw [if_neg c46] at H
                    have c46b0 : decide (100 < x122001_36) = false := decide_eq_false c46
                    clear c46
                    (first | rw [c46b0] | (simp only [i64_w, i32_w]; rw [c46b0]) | skip)
                    have H' := Aside0.mk H
                    clear H
                    go_wp2
                    go_meet
                    case rel => exact ⟨_, (x122001_36), (a0_2), H', ⟨by have := HJ3.out; have := HJ28.out; have := HJ36.out; first | omega | exact Nat.le_refl _⟩, ⟨by (with_reducible repeat (first | refine blk_drewN ?_ _ | refine blk_drew ?_ | refine blk_alloc ?_ _)); exact BK121.out⟩, ⟨by (with_reducible repeat (first | refine blk_drewN ?_ _ | refine blk_drew ?_ | refine blk_alloc ?_ _)); exact BK122.out⟩, ⟨by repeat (first | (with_reducible first | exact HB.out | apply below_alloc | apply pw_below_drewN | apply below_drew1 | refine below_set ?_ GE121.out | refine below_set ?_ GE122.out) | exact HB.out)⟩⟩
                case rest =>
                  clear HC43
                  try clear c1
                  try clear c2
                  try clear p2
                  try clear c3
                  try clear c4
                  try clear c5
                  try clear p6
                  try clear c8
                  try clear c10
                  try clear c12
                  try clear c13
                  try clear c17
                  try clear c20
                  try clear c23
                  try clear c24
                  try clear c26
                  try clear c27
                  try clear c30
                  try clear c32
                  try clear c32b0
                  try clear c33
                  try clear c35
                  try clear c38
                  try clear c38b0
                  try clear c41
                  try clear c44
                  try clear c46
                  try clear c46b0
                  try clear c48
                  try clear hcz14_0
                  try clear hcz14_1
                  try clear hcz14_2
                  try clear hcz14_3
                  try clear hcz14_4
                  try clear hcz16_0
                  try clear hcz16_1
                  try clear hcz16_2
                  try clear hcz16_3
                  try clear hcz16_4
                  try clear hcz18_0
                  try clear hcz18_1
                  try clear hcz18_2
                  try clear hcz18_3
                  try clear hcz18_4
                  try clear hcz21_0
                  try clear hcz21_1
                  try clear hcz21_2
                  try clear hcz21_3
                  try clear hcz21_4
                  try clear hcz24_0
                  try clear hcz24_1
                  try clear hcz24_2
                  try clear hcz24_3
                  try clear hcz24_4
                  try clear hcz28_0
                  try clear hcz28_1
                  try clear hcz28_2
                  try clear hcz28_3
                  try clear hcz28_4
                  try clear hcz31_0
                  try clear hcz31_1
                  try clear hcz31_2
                  try clear hcz31_3
                  try clear hcz31_4
                  try clear hcz34_0
                  try clear hcz34_1
                  try clear hcz34_2
                  try clear hcz34_3
                  try clear hcz34_4
                  try clear hcz36_0
                  try clear hcz36_1
                  try clear hcz36_2
                  try clear hcz36_3
                  try clear hcz36_4
                  try clear hcz42_0
                  try clear hcz42_1
                  try clear hcz42_2
                  try clear hcz42_3
                  try clear hcz42_4
                  try clear hcz45_0
                  try clear hcz45_1
                  try clear hcz45_2
                  try clear hcz45_3
                  try clear hcz45_4
                  try clear hcz49_0
                  try clear hcz49_1
                  try clear hcz49_2
                  try clear hcz49_3
                  try clear hcz49_4
                  try clear hfz14_0
                  try clear hfz14_1
                  try clear hfz14_2
                  try clear hfz14_3
                  try clear hfz14_4
                  try clear hfz16_0
                  try clear hfz16_1
                  try clear hfz16_2
                  try clear hfz16_3
                  try clear hfz16_4
                  try clear hfz18_0
                  try clear hfz18_1
                  try clear hfz18_2
                  try clear hfz18_3
                  try clear hfz18_4
                  try clear hfz21_0
                  try clear hfz21_1
                  try clear hfz21_2
                  try clear hfz21_3
                  try clear hfz21_4
                  try clear hfz24_0
                  try clear hfz24_1
                  try clear hfz24_2
                  try clear hfz24_3
                  try clear hfz24_4
                  try clear hfz28_0
                  try clear hfz28_1
                  try clear hfz28_2
                  try clear hfz28_3
                  try clear hfz28_4
                  try clear hfz31_0
                  try clear hfz31_1
                  try clear hfz31_2
                  try clear hfz31_3
                  try clear hfz31_4
                  try clear hfz34_0
                  try clear hfz34_1
                  try clear hfz34_2
                  try clear hfz34_3
                  try clear hfz34_4
                  try clear hfz36_0
                  try clear hfz36_1
                  try clear hfz36_2
                  try clear hfz36_3
                  try clear hfz36_4
                  try clear hfz42_0
                  try clear hfz42_1
                  try clear hfz42_2
                  try clear hfz42_3
                  try clear hfz42_4
                  try clear hfz45_0
                  try clear hfz45_1
                  try clear hfz45_2
                  try clear hfz45_3
                  try clear hfz45_4
                  try clear hfz49_0
                  try clear hfz49_1
                  try clear hfz49_2
                  try clear hfz49_3
                  try clear hfz49_4
                  try clear p2
                  try clear p6
                  obtain ⟨kq, x122001_42, x122002_42, HA, HJ42, BK121, BK122, HB⟩ := hcut
                  cases kq with
                  | zero => exact absurd HA.out (by simp [impl_SoilStep.j3])
                  | succ kj42 =>
                    have H := HA.out
                    clear HA
                    simp only [impl_SoilStep.j3] at H
                    have HC50 := Aside0.mk H
                    clear H
                    have hnb51 := NB121_122.out
                    have hnc51 := NB122_121.out
                    have hcz52_0 : wc.cell? ⟨gb121, 0, none⟩ = some (.int .i64 x122000_36) := (blk_cell BK121.out 0).trans rfl
                    have hcz52_1 : wc.cell? ⟨gb121, 1, none⟩ = some (.int .i64 x122001_42) := (blk_cell BK121.out 1).trans rfl
                    have hcz52_2 : wc.cell? ⟨gb121, 2, none⟩ = some (.int .i64 x122002_42) := (blk_cell BK121.out 2).trans rfl
                    have hcz52_3 : wc.cell? ⟨gb121, 3, none⟩ = some (.int .i64 x122003_36) := (blk_cell BK121.out 3).trans rfl
                    have hcz52_4 : wc.cell? ⟨gb121, 4, none⟩ = some (.int .i64 (wrap64 (a0_4 + a2))) := (blk_cell BK121.out 4).trans rfl
                    have hfz52_0 := blk_frozen BK121.out 0
                    have hfz52_1 := blk_frozen BK121.out 1
                    have hfz52_2 := blk_frozen BK121.out 2
                    have hfz52_3 := blk_frozen BK121.out 3
                    have hfz52_4 := blk_frozen BK121.out 4
                    go_upto_if 106 with (fail)
                    go_cut [] (fun wc => ∃ (kq : Nat) (x122001_49 : Int) (x122003_49 : Int), Aside0 (impl_SoilStep.j4 kq x122000_36 x122001_49 x122002_42 x122003_49 (wrap64 (a0_4 + a2)) = some (r1, r2, r3, r4, r5, r6)) ∧ Aside0 (kq ≤ kj42) ∧ Aside0 (wc.heap[gb121]? = some (.cells #[.int .i64 x122000_36, .int .i64 x122001_49, .int .i64 x122002_42, .int .i64 x122003_49, .int .i64 (wrap64 (a0_4 + a2))] 37 (0, 0))) ∧ Aside0 (wc.heap[gb122]? = some (.cells #[.int .i64 0, .int .i64 0, .int .i64 0, .int .i64 0, .int .i64 0] 37 (0, 0))) ∧ Aside0 (Below w.heap.size w wc))
                    case first =>
                      have H := HC50.out
                      clear HC50
                      by_cases c53 : x122001_42 > 400
                      · rw [if_pos c53] at H
                        have c53b0 : decide (400 < x122001_42) = true := decide_eq_true c53
                        clear c53
                        (first | rw [c53b0] | (simp only [i64_w, i32_w]; rw [c53b0]) | skip)
                        have H' := Aside0.mk H
                        clear H
                        have hnb54 := NB121_122.out
                        have hnc54 := NB122_121.out
                        have hcz55_0 : wc.cell? ⟨gb121, 0, none⟩ = some (.int .i64 x122000_36) := (blk_cell BK121.out 0).trans rfl
                        have hcz55_1 : wc.cell? ⟨gb121, 1, none⟩ = some (.int .i64 x122001_42) := (blk_cell BK121.out 1).trans rfl
                        have hcz55_2 : wc.cell? ⟨gb121, 2, none⟩ = some (.int .i64 x122002_42) := (blk_cell BK121.out 2).trans rfl
                        have hcz55_3 : wc.cell? ⟨gb121, 3, none⟩ = some (.int .i64 x122003_36) := (blk_cell BK121.out 3).trans rfl
                        have hcz55_4 : wc.cell? ⟨gb121, 4, none⟩ = some (.int .i64 (wrap64 (a0_4 + a2))) := (blk_cell BK121.out 4).trans rfl
                        have hfz55_0 := blk_frozen BK121.out 0
                        have hfz55_1 := blk_frozen BK121.out 1
                        have hfz55_2 := blk_frozen BK121.out 2
                        have hfz55_3 := blk_frozen BK121.out 3
                        have hfz55_4 := blk_frozen BK121.out 4
                        go_wp2
                        go_meet
                        case rel => exact ⟨_, (400), (wrap64 (x122003_36 + (wrap64 (x122001_42 - 400)))), H', ⟨by have := HJ3.out; have := HJ28.out; have := HJ36.out; have := HJ42.out; first | omega | exact Nat.le_refl _⟩, ⟨by (with_reducible repeat (first | refine blk_drewN ?_ _ | refine blk_drew ?_ | refine blk_alloc ?_ _)); refine blk_put (cs := #[.int .i64 x122000_36, .int .i64 x122001_42, .int .i64 x122002_42, .int .i64 (wrap64 (x122003_36 + (wrap64 (x122001_42 - 400)))), .int .i64 (wrap64 (a0_4 + a2))]) ?_ 1 _ rfl; (with_reducible repeat (first | refine blk_drewN ?_ _ | refine blk_drew ?_ | refine blk_alloc ?_ _)); refine blk_put (cs := #[.int .i64 x122000_36, .int .i64 x122001_42, .int .i64 x122002_42, .int .i64 x122003_36, .int .i64 (wrap64 (a0_4 + a2))]) ?_ 3 _ rfl; (with_reducible repeat (first | refine blk_drewN ?_ _ | refine blk_drew ?_ | refine blk_alloc ?_ _)); exact BK121.out⟩, ⟨by (with_reducible repeat (first | refine blk_drewN ?_ _ | refine blk_drew ?_ | refine blk_alloc ?_ _)); refine blk_far ?_ NB122_121.out _; (with_reducible repeat (first | refine blk_drewN ?_ _ | refine blk_drew ?_ | refine blk_alloc ?_ _)); refine blk_far ?_ NB122_121.out _; (with_reducible repeat (first | refine blk_drewN ?_ _ | refine blk_drew ?_ | refine blk_alloc ?_ _)); exact BK122.out⟩, ⟨by repeat (first | (with_reducible first | exact HB.out | apply below_alloc | apply pw_below_drewN | apply below_drew1 | refine below_set ?_ GE121.out | refine below_set ?_ GE122.out) | exact HB.out)⟩⟩
                      · rw [if_neg c53] at H
                        have c53b0 : decide (400 < x122001_42) = false := decide_eq_false c53
                        clear c53
                        (first | rw [c53b0] | (simp only [i64_w, i32_w]; rw [c53b0]) | skip)
                        have H' := Aside0.mk H
                        clear H
                        go_wp2
                        go_meet
                        case rel => exact ⟨_, (x122001_42), (x122003_36), H', ⟨by have := HJ3.out; have := HJ28.out; have := HJ36.out; have := HJ42.out; first | omega | exact Nat.le_refl _⟩, ⟨by (with_reducible repeat (first | refine blk_drewN ?_ _ | refine blk_drew ?_ | refine blk_alloc ?_ _)); exact BK121.out⟩, ⟨by (with_reducible repeat (first | refine blk_drewN ?_ _ | refine blk_drew ?_ | refine blk_alloc ?_ _)); exact BK122.out⟩, ⟨by repeat (first | (with_reducible first | exact HB.out | apply below_alloc | apply pw_below_drewN | apply below_drew1 | refine below_set ?_ GE121.out | refine below_set ?_ GE122.out) | exact HB.out)⟩⟩
                    case rest =>
                      clear HC50
                      try clear c1
                      try clear c2
                      try clear p2
                      try clear c3
                      try clear c4
                      try clear c5
                      try clear p6
                      try clear c8
                      try clear c10
                      try clear c12
                      try clear c13
                      try clear c17
                      try clear c20
                      try clear c23
                      try clear c24
                      try clear c26
                      try clear c27
                      try clear c30
                      try clear c32
                      try clear c32b0
                      try clear c33
                      try clear c35
                      try clear c38
                      try clear c38b0
                      try clear c41
                      try clear c44
                      try clear c46
                      try clear c46b0
                      try clear c48
                      try clear c51
                      try clear c53
                      try clear c53b0
                      try clear c54
                      try clear hcz14_0
                      try clear hcz14_1
                      try clear hcz14_2
                      try clear hcz14_3
                      try clear hcz14_4
                      try clear hcz16_0
                      try clear hcz16_1
                      try clear hcz16_2
                      try clear hcz16_3
                      try clear hcz16_4
                      try clear hcz18_0
                      try clear hcz18_1
                      try clear hcz18_2
                      try clear hcz18_3
                      try clear hcz18_4
                      try clear hcz21_0
                      try clear hcz21_1
                      try clear hcz21_2
                      try clear hcz21_3
                      try clear hcz21_4
                      try clear hcz24_0
                      try clear hcz24_1
                      try clear hcz24_2
                      try clear hcz24_3
                      try clear hcz24_4
                      try clear hcz28_0
                      try clear hcz28_1
                      try clear hcz28_2
                      try clear hcz28_3
                      try clear hcz28_4
                      try clear hcz31_0
                      try clear hcz31_1
                      try clear hcz31_2
                      try clear hcz31_3
                      try clear hcz31_4
                      try clear hcz34_0
                      try clear hcz34_1
                      try clear hcz34_2
                      try clear hcz34_3
                      try clear hcz34_4
                      try clear hcz36_0
                      try clear hcz36_1
                      try clear hcz36_2
                      try clear hcz36_3
                      try clear hcz36_4
                      try clear hcz42_0
                      try clear hcz42_1
                      try clear hcz42_2
                      try clear hcz42_3
                      try clear hcz42_4
                      try clear hcz45_0
                      try clear hcz45_1
                      try clear hcz45_2
                      try clear hcz45_3
                      try clear hcz45_4
                      try clear hcz49_0
                      try clear hcz49_1
                      try clear hcz49_2
                      try clear hcz49_3
                      try clear hcz49_4
                      try clear hcz52_0
                      try clear hcz52_1
                      try clear hcz52_2
                      try clear hcz52_3
                      try clear hcz52_4
                      try clear hcz55_0
                      try clear hcz55_1
                      try clear hcz55_2
                      try clear hcz55_3
                      try clear hcz55_4
                      try clear hfz14_0
                      try clear hfz14_1
                      try clear hfz14_2
                      try clear hfz14_3
                      try clear hfz14_4
                      try clear hfz16_0
                      try clear hfz16_1
                      try clear hfz16_2
                      try clear hfz16_3
                      try clear hfz16_4
                      try clear hfz18_0
                      try clear hfz18_1
                      try clear hfz18_2
                      try clear hfz18_3
                      try clear hfz18_4
                      try clear hfz21_0
                      try clear hfz21_1
                      try clear hfz21_2
                      try clear hfz21_3
                      try clear hfz21_4
                      try clear hfz24_0
                      try clear hfz24_1
                      try clear hfz24_2
                      try clear hfz24_3
                      try clear hfz24_4
                      try clear hfz28_0
                      try clear hfz28_1
                      try clear hfz28_2
                      try clear hfz28_3
                      try clear hfz28_4
                      try clear hfz31_0
                      try clear hfz31_1
                      try clear hfz31_2
                      try clear hfz31_3
                      try clear hfz31_4
                      try clear hfz34_0
                      try clear hfz34_1
                      try clear hfz34_2
                      try clear hfz34_3
                      try clear hfz34_4
                      try clear hfz36_0
                      try clear hfz36_1
                      try clear hfz36_2
                      try clear hfz36_3
                      try clear hfz36_4
                      try clear hfz42_0
                      try clear hfz42_1
                      try clear hfz42_2
                      try clear hfz42_3
                      try clear hfz42_4
                      try clear hfz45_0
                      try clear hfz45_1
                      try clear hfz45_2
                      try clear hfz45_3
                      try clear hfz45_4
                      try clear hfz49_0
                      try clear hfz49_1
                      try clear hfz49_2
                      try clear hfz49_3
                      try clear hfz49_4
                      try clear hfz52_0
                      try clear hfz52_1
                      try clear hfz52_2
                      try clear hfz52_3
                      try clear hfz52_4
                      try clear hfz55_0
                      try clear hfz55_1
                      try clear hfz55_2
                      try clear hfz55_3
                      try clear hfz55_4
                      try clear p2
                      try clear p6
                      obtain ⟨kq, x122001_49, x122003_49, HA, HJ49, BK121, BK122, HB⟩ := hcut
                      cases kq with
                      | zero => exact absurd HA.out (by simp [impl_SoilStep.j4])
                      | succ kj49 =>
                        have H := HA.out
                        clear HA
                        simp only [impl_SoilStep.j4] at H
                        simp only [Option.some.injEq, Prod.mk.injEq] at H
                        obtain ⟨rfl, rfl, rfl, rfl, rfl, rfl⟩ := H
                        have hnb56 := NB121_122.out
                        have hnc56 := NB122_121.out
                        have hcz57_0 : wc.cell? ⟨gb121, 0, none⟩ = some (.int .i64 x122000_36) := (blk_cell BK121.out 0).trans rfl
                        have hcz57_1 : wc.cell? ⟨gb121, 1, none⟩ = some (.int .i64 x122001_49) := (blk_cell BK121.out 1).trans rfl
                        have hcz57_2 : wc.cell? ⟨gb121, 2, none⟩ = some (.int .i64 x122002_42) := (blk_cell BK121.out 2).trans rfl
                        have hcz57_3 : wc.cell? ⟨gb121, 3, none⟩ = some (.int .i64 x122003_49) := (blk_cell BK121.out 3).trans rfl
                        have hcz57_4 : wc.cell? ⟨gb121, 4, none⟩ = some (.int .i64 (wrap64 (a0_4 + a2))) := (blk_cell BK121.out 4).trans rfl
                        have hfz57_0 := blk_frozen BK121.out 0
                        have hfz57_1 := blk_frozen BK121.out 1
                        have hfz57_2 := blk_frozen BK121.out 2
                        have hfz57_3 := blk_frozen BK121.out 3
                        have hfz57_4 := blk_frozen BK121.out 4
                        have hcz58_0 : wc.cell? ⟨gb122, 0, none⟩ = some (.int .i64 0) := (blk_cell BK122.out 0).trans rfl
                        have hcz58_1 : wc.cell? ⟨gb122, 1, none⟩ = some (.int .i64 0) := (blk_cell BK122.out 1).trans rfl
                        have hcz58_2 : wc.cell? ⟨gb122, 2, none⟩ = some (.int .i64 0) := (blk_cell BK122.out 2).trans rfl
                        have hcz58_3 : wc.cell? ⟨gb122, 3, none⟩ = some (.int .i64 0) := (blk_cell BK122.out 3).trans rfl
                        have hcz58_4 : wc.cell? ⟨gb122, 4, none⟩ = some (.int .i64 0) := (blk_cell BK122.out 4).trans rfl
                        have hfz58_0 := blk_frozen BK122.out 0
                        have hfz58_1 := blk_frozen BK122.out 1
                        have hfz58_2 := blk_frozen BK122.out 2
                        have hfz58_3 := blk_frozen BK122.out 3
                        have hfz58_4 := blk_frozen BK122.out 4
                        go_wp2
                        refine bodyPost_ret (results_ct rfl _ _ gb122 37 #[.int .i64 x122000_36, .int .i64 x122001_49, .int .i64 (wrap64 (x122002_42 - (wrap64 (Int.tdiv x122002_42 50)))), .int .i64 (wrap64 (x122003_49 + (wrap64 (Int.tdiv x122002_42 50)))), .int .i64 (wrap64 (a0_4 + a2))] (0, 0) _ rfl (by (with_reducible repeat (first | refine blk_drewN ?_ _ | refine blk_drew ?_ | refine blk_alloc ?_ _)); refine blk_put (cs := #[.int .i64 x122000_36, .int .i64 x122001_49, .int .i64 (wrap64 (x122002_42 - (wrap64 (Int.tdiv x122002_42 50)))), .int .i64 (wrap64 (x122003_49 + (wrap64 (Int.tdiv x122002_42 50)))), .int .i64 0]) ?_ 4 _ rfl; (with_reducible repeat (first | refine blk_drewN ?_ _ | refine blk_drew ?_ | refine blk_alloc ?_ _)); refine blk_put (cs := #[.int .i64 x122000_36, .int .i64 x122001_49, .int .i64 (wrap64 (x122002_42 - (wrap64 (Int.tdiv x122002_42 50)))), .int .i64 0, .int .i64 0]) ?_ 3 _ rfl; (with_reducible repeat (first | refine blk_drewN ?_ _ | refine blk_drew ?_ | refine blk_alloc ?_ _)); refine blk_put (cs := #[.int .i64 x122000_36, .int .i64 x122001_49, .int .i64 0, .int .i64 0, .int .i64 0]) ?_ 2 _ rfl; (with_reducible repeat (first | refine blk_drewN ?_ _ | refine blk_drew ?_ | refine blk_alloc ?_ _)); refine blk_put (cs := #[.int .i64 x122000_36, .int .i64 0, .int .i64 0, .int .i64 0, .int .i64 0]) ?_ 1 _ rfl; (with_reducible repeat (first | refine blk_drewN ?_ _ | refine blk_drew ?_ | refine blk_alloc ?_ _)); refine blk_put (cs := #[.int .i64 0, .int .i64 0, .int .i64 0, .int .i64 0, .int .i64 0]) ?_ 0 _ rfl; (with_reducible repeat (first | refine blk_drewN ?_ _ | refine blk_drew ?_ | refine blk_alloc ?_ _)); refine blk_far ?_ NB122_121.out _; (with_reducible repeat (first | refine blk_drewN ?_ _ | refine blk_drew ?_ | refine blk_alloc ?_ _)); refine blk_far ?_ NB122_121.out _; (with_reducible repeat (first | refine blk_drewN ?_ _ | refine blk_drew ?_ | refine blk_alloc ?_ _)); exact BK122.out) Try.underlying37 rfl (by kernel_rfl)) rfl ?_
                        exact ⟨by first | rfl | (simp [errW_none, errW_some] <;> rfl) | (simp [*, errW_none, errW_some] <;> rfl), by repeat (first | (with_reducible first | exact HB.out | apply below_alloc | apply pw_below_drewN | apply below_drew1 | refine below_set ?_ GE121.out | refine below_set ?_ GE122.out) | exact HB.out)⟩

end Go.Proofs.Ytoghojneidpkkaa.PFnExactSoilStep
