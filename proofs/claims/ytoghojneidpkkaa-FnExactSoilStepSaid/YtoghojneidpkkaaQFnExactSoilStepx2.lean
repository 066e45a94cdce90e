/-
  Contracts of functions that the law FnExactSoilStep reaches, as the kit's print tool wrote them (printed so that it cuts wherever ways meet), the last block of spec.SoilStep walked in four pieces.
  Conditions: none.
-/
import Derived.Test.YtoghojneidpkkaaPFnExactSoilStepx0
import Derived.Test.YtoghojneidpkkaaPFnExactSoilStepx1
namespace Go.Proofs.Ytoghojneidpkkaa.PFnExactSoilStep
open Go.RowKit Go.Proofs.YtoghojneidpkkaaW.PrintWords Go.Proofs.YtoghojneidpkkaaW.PrintLast Go.Proofs.YtoghojneidpkkaaW.PrintMore
attribute [local go_sem] max2_int min2_int max_two min_two max_three min_three max_four min_four   -- for this text's walks alone
set_option linter.unusedVariables false
set_option linter.unusedSimpArgs false

/-! ### spec_SoilStep: function 22 -/
mutual
def spec_SoilStep.j0 : Nat → Int → Int → Bool → Int → Int → Int → Int → Int → Option (Int × Int × Int × Int × Int × Bool)
  | 0, _, _, _, _, _, _, _, _ => none
  | k + 1, x1, x2, x32, x108000, x108001, x108002, x108003, x108004 => if x32 = true then (some (0, 0, 0, 0, 0, false)) else (if x1 < 0 then (spec_SoilStep.j1 k x1 (wrap64 (x108000 + x2)) x108001 x108002 x108003 (wrap64 (x108004 + x2))) else (spec_SoilStep.j1 k x1 x108000 (wrap64 (x108001 + x2)) x108002 x108003 (wrap64 (x108004 + x2))))
def spec_SoilStep.j1 : Nat → Int → Int → Int → Int → Int → Int → Option (Int × Int × Int × Int × Int × Bool)
  | 0, _, _, _, _, _, _ => none
  | k + 1, x1, x108000, x108001, x108002, x108003, x108004 => if x1 > 0 then (spec_SoilStep.j2 k (wrap64 (x108000 - (mn x108000 (wrap64 (Int.tdiv (wrap64 (3 * x1)) 10))))) (wrap64 ((wrap64 (x108001 + (mn x108000 (wrap64 (Int.tdiv (wrap64 (3 * x1)) 10))))) - (mn (wrap64 (x108001 + (mn x108000 (wrap64 (Int.tdiv (wrap64 (3 * x1)) 10))))) (wrap64 (Int.tdiv x1 20))))) x108002 (wrap64 (x108003 + (mn (wrap64 (x108001 + (mn x108000 (wrap64 (Int.tdiv (wrap64 (3 * x1)) 10))))) (wrap64 (Int.tdiv x1 20))))) x108004) else (spec_SoilStep.j2 k x108000 x108001 x108002 x108003 x108004)
def spec_SoilStep.j2 : Nat → Int → Int → Int → Int → Int → Option (Int × Int × Int × Int × Int × Bool)
  | 0, _, _, _, _, _ => none
  | k + 1, x108000, x108001, x108002, x108003, x108004 => some (x108000, wrap64 ((wrap64 (x108001 - (mn (wrap64 ((mx (wrap64 (x108001 - 100)) 0) / 4)) (wrap64 (1500 - x108002))))) - (mx (wrap64 ((wrap64 (x108001 - (mn (wrap64 ((mx (wrap64 (x108001 - 100)) 0) / 4)) (wrap64 (1500 - x108002))))) - 400)) 0)), wrap64 ((wrap64 (x108002 + (mn (wrap64 ((mx (wrap64 (x108001 - 100)) 0) / 4)) (wrap64 (1500 - x108002))))) - (wrap64 (Int.tdiv (wrap64 (x108002 + (mn (wrap64 ((mx (wrap64 (x108001 - 100)) 0) / 4)) (wrap64 (1500 - x108002))))) 50))), wrap64 ((wrap64 (x108003 + (mx (wrap64 ((wrap64 (x108001 - (mn (wrap64 ((mx (wrap64 (x108001 - 100)) 0) / 4)) (wrap64 (1500 - x108002))))) - 400)) 0))) + (wrap64 (Int.tdiv (wrap64 (x108002 + (mn (wrap64 ((mx (wrap64 (x108001 - 100)) 0) / 4)) (wrap64 (1500 - x108002))))) 50))), x108004, true)
end
def spec_SoilStep.f (k : Nat) (a0_0 : Int) (a0_1 : Int) (a0_2 : Int) (a0_3 : Int) (a0_4 : Int) (a1 : Int) (a2 : Int) : Option (Int × Int × Int × Int × Int × Bool) := (spec_l17SoilOk.f k a0_0 a0_1 a0_2 a0_3 a0_4).bind fun t109 => (if t109 = true then ((spec_l2In.f a1 (-800) 800).bind fun t110 => (if t110 = true then ((spec_l2In.f a2 0 5000).bind fun t111 => (if t111 = true then (spec_SoilStep.j0 k a1 a2 (decide (a0_4 > (wrap64 (1000000000000 - a2)))) a0_0 a0_1 a0_2 a0_3 a0_4) else (spec_SoilStep.j0 k a1 a2 true a0_0 a0_1 a0_2 a0_3 a0_4))) else (spec_SoilStep.j0 k a1 a2 true a0_0 a0_1 a0_2 a0_3 a0_4))) else (spec_SoilStep.j0 k a1 a2 true a0_0 a0_1 a0_2 a0_3 a0_4))
theorem spec_SoilStep.mono_l : ∀ k, (∀ y0 y1 y2 y3 y4 y5 y6 y7, LeO (spec_SoilStep.j0 k y0 y1 y2 y3 y4 y5 y6 y7) (spec_SoilStep.j0 (k + 1) y0 y1 y2 y3 y4 y5 y6 y7)) ∧ (∀ y0 y1 y2 y3 y4 y5, LeO (spec_SoilStep.j1 k y0 y1 y2 y3 y4 y5) (spec_SoilStep.j1 (k + 1) y0 y1 y2 y3 y4 y5)) ∧ (∀ y0 y1 y2 y3 y4, LeO (spec_SoilStep.j2 k y0 y1 y2 y3 y4) (spec_SoilStep.j2 (k + 1) y0 y1 y2 y3 y4))
  | 0 => ⟨fun _ _ _ _ _ _ _ _ r h => by simp [spec_SoilStep.j0] at h, fun _ _ _ _ _ _ r h => by simp [spec_SoilStep.j1] at h, fun _ _ _ _ _ r h => by simp [spec_SoilStep.j2] at h⟩
  | k + 1 => by
    obtain ⟨ih0, ih1, ih2⟩ := spec_SoilStep.mono_l k
    refine ⟨?_, ?_, ?_⟩
    · intro y0 y1 y2 y3 y4 y5 y6 y7
      unfold spec_SoilStep.j0
      repeat' first
      | (with_reducible exact ih0 _ _ _ _ _ _ _ _)
      | (with_reducible exact ih1 _ _ _ _ _ _)
      | (with_reducible exact ih2 _ _ _ _ _)
      | (with_reducible exact spec_l17SoilOk.mono _ _ _ _ _ _)
      | (with_reducible exact LeO.refl _)
      | (with_reducible exact LeO.none _)
      | (with_reducible refine LeO.ite ?_ ?_)
      | (with_reducible refine LeO.bind ?_ (fun _ => ?_))
      | exact ih0 _ _ _ _ _ _ _ _
      | exact ih1 _ _ _ _ _ _
      | exact ih2 _ _ _ _ _
      | exact spec_l17SoilOk.mono _ _ _ _ _ _
      | exact LeO.none _
      | refine LeO.ite ?_ ?_
      | refine LeO.bind ?_ (fun _ => ?_)
    · intro y0 y1 y2 y3 y4 y5
      unfold spec_SoilStep.j1
      repeat' first
      | (with_reducible exact ih0 _ _ _ _ _ _ _ _)
      | (with_reducible exact ih1 _ _ _ _ _ _)
      | (with_reducible exact ih2 _ _ _ _ _)
      | (with_reducible exact spec_l17SoilOk.mono _ _ _ _ _ _)
      | (with_reducible exact LeO.refl _)
      | (with_reducible exact LeO.none _)
      | (with_reducible refine LeO.ite ?_ ?_)
      | (with_reducible refine LeO.bind ?_ (fun _ => ?_))
      | exact ih0 _ _ _ _ _ _ _ _
      | exact ih1 _ _ _ _ _ _
      | exact ih2 _ _ _ _ _
      | exact spec_l17SoilOk.mono _ _ _ _ _ _
      | exact LeO.none _
      | refine LeO.ite ?_ ?_
      | refine LeO.bind ?_ (fun _ => ?_)
    · intro y0 y1 y2 y3 y4
      unfold spec_SoilStep.j2
      repeat' first
      | (with_reducible exact ih0 _ _ _ _ _ _ _ _)
      | (with_reducible exact ih1 _ _ _ _ _ _)
      | (with_reducible exact ih2 _ _ _ _ _)
      | (with_reducible exact spec_l17SoilOk.mono _ _ _ _ _ _)
      | (with_reducible exact LeO.refl _)
      | (with_reducible exact LeO.none _)
      | (with_reducible refine LeO.ite ?_ ?_)
      | (with_reducible refine LeO.bind ?_ (fun _ => ?_))
      | exact ih0 _ _ _ _ _ _ _ _
      | exact ih1 _ _ _ _ _ _
      | exact ih2 _ _ _ _ _
      | exact spec_l17SoilOk.mono _ _ _ _ _ _
      | exact LeO.none _
      | refine LeO.ite ?_ ?_
      | refine LeO.bind ?_ (fun _ => ?_)
theorem spec_SoilStep.mono : ∀ a0 a1 a2 a3 a4 a5 a6 k, LeO (spec_SoilStep.f k a0 a1 a2 a3 a4 a5 a6) (spec_SoilStep.f (k + 1) a0 a1 a2 a3 a4 a5 a6) := by
  intro a0 a1 a2 a3 a4 a5 a6 k
  obtain ⟨ih0, ih1, ih2⟩ := spec_SoilStep.mono_l k
  unfold spec_SoilStep.f
  repeat' first
      | (with_reducible exact ih0 _ _ _ _ _ _ _ _)
      | (with_reducible exact ih1 _ _ _ _ _ _)
      | (with_reducible exact ih2 _ _ _ _ _)
      | (with_reducible exact spec_l17SoilOk.mono _ _ _ _ _ _)
      | (with_reducible exact LeO.refl _)
      | (with_reducible exact LeO.none _)
      | (with_reducible refine LeO.ite ?_ ?_)
      | (with_reducible refine LeO.bind ?_ (fun _ => ?_))
      | exact ih0 _ _ _ _ _ _ _ _
      | exact ih1 _ _ _ _ _ _
      | exact ih2 _ _ _ _ _
      | exact spec_l17SoilOk.mono _ _ _ _ _ _
      | exact LeO.none _
      | refine LeO.ite ?_ ?_
      | refine LeO.bind ?_ (fun _ => ?_)
set_option maxHeartbeats 8000000 in
set_option maxRecDepth 100000 in
theorem spec_SoilStep.calls (k : Nat) (a0_0 : Int) (a0_1 : Int) (a0_2 : Int) (a0_3 : Int) (a0_4 : Int) (a1 : Int) (a2 : Int) (r1 : Int) (r2 : Int) (r3 : Int) (r4 : Int) (r5 : Int) (r6 : Bool) (w : World) (h : spec_SoilStep.f k a0_0 a0_1 a0_2 a0_3 a0_4 a1 a2 = some (r1, r2, r3, r4, r5, r6)) :
    Calls Try.prog 22 #[.agg #[.int .i64 a0_0, .int .i64 a0_1, .int .i64 a0_2, .int .i64 a0_3, .int .i64 a0_4], .int .i64 a1, .int .i64 a2] w fun e w' => e = .returned (.tuple #[.agg #[.int .i64 r1, .int .i64 r2, .int .i64 r3, .int .i64 r4, .int .i64 r5], .bool r6]) ∧ Below w.heap.size w w' := by
  have hu37 := Try.underlying37
  have HB := Aside0.mk (Below.refl w.heap.size w)
  have H : ((spec_l17SoilOk.f k a0_0 a0_1 a0_2 a0_3 a0_4).bind fun t109 => (if t109 = true then ((spec_l2In.f a1 (-800) 800).bind fun t110 => (if t110 = true then ((spec_l2In.f a2 0 5000).bind fun t111 => (if t111 = true then (spec_SoilStep.j0 k a1 a2 (decide (a0_4 > (wrap64 (1000000000000 - a2)))) a0_0 a0_1 a0_2 a0_3 a0_4) else (spec_SoilStep.j0 k a1 a2 true a0_0 a0_1 a0_2 a0_3 a0_4))) else (spec_SoilStep.j0 k a1 a2 true a0_0 a0_1 a0_2 a0_3 a0_4))) else (spec_SoilStep.j0 k a1 a2 true a0_0 a0_1 a0_2 a0_3 a0_4))) = some (r1, r2, r3, r4, r5, r6) := h
  clear h
  have HC4 := Aside0.mk H
  clear H
  go_enter Try.func22, Try.ntmps22
  go_upto_region 1 with (first | ((with_reducible refine gate_dst (N := 3) rfl ?_); refine box_event ?hg (N := 3) ?hd (cs := #[.int .i64 a0_0, .int .i64 a0_1, .int .i64 a0_2, .int .i64 a0_3, .int .i64 a0_4]) (t := 37) ?hr ?_; (case hd => rfl); (case hg => rfl); (case hr => first | (go_simp; done) | (go_simp; rfl)); intro gb107 hg w5 hbox hb; have n0_ := Aside0.mk (below_step (by repeat (first | (with_reducible first | exact HB.out | apply below_alloc | apply pw_below_drewN | apply below_drew1) | exact HB.out)) hb); have n1_ := Aside0.mk (hbox); have n2_ := Aside0.mk ((by rw [hg]; exact (below_size (by repeat (first | (with_reducible first | exact HB.out | apply below_alloc | apply pw_below_drewN | apply below_drew1) | exact HB.out))) : w.heap.size ≤ gb107)); have n3_ := Aside0.mk ((by rw [hg]; exact (below_size (by repeat (first | (with_reducible first | exact HB.out | apply below_alloc | apply pw_below_drewN | apply below_drew1) | exact HB.out))) : w.heap.size ≤ gb107)); clear HB; have HB := n0_; have BK107 := n1_; have GW107 := n2_; have GE107 := n3_; clear n0_ n1_ n2_ n3_; clear hb hbox hg) | ((with_reducible refine gate_dst (N := 6) rfl ?_); refine box_event ?hg (N := 6) ?hd (cs := #[.int .i64 0, .int .i64 0, .int .i64 0, .int .i64 0, .int .i64 0]) (t := 37) ?hr ?_; (case hd => rfl); (case hg => rfl); (case hr => first | (go_simp; done) | (go_simp; rfl)); intro gb108 hg w6 hbox hb; have n0_ := Aside0.mk (blk_below (g := gb107) (o := .cells #[.int .i64 a0_0, .int .i64 a0_1, .int .i64 a0_2, .int .i64 a0_3, .int .i64 a0_4] 37 (0, 0)) (by (with_reducible repeat (first | refine blk_drewN ?_ _ | refine blk_drew ?_ | refine blk_alloc ?_ _)); exact BK107.out) hb); have n1_ := Aside0.mk (below_step (by repeat (first | (with_reducible first | exact HB.out | apply below_alloc | apply pw_below_drewN | apply below_drew1 | refine below_set ?_ GE107.out) | exact HB.out)) hb); have n2_ := Aside0.mk (hbox); have n3_ := Aside0.mk ((by rw [hg]; exact (below_size (by repeat (first | (with_reducible first | exact HB.out | apply below_alloc | apply pw_below_drewN | apply below_drew1 | refine below_set ?_ GE107.out) | exact HB.out))) : w.heap.size ≤ gb108)); have n4_ := Aside0.mk ((by rw [hg]; exact (below_size (by repeat (first | (with_reducible first | exact HB.out | apply below_alloc | apply pw_below_drewN | apply below_drew1 | refine below_set ?_ GE107.out) | exact HB.out))) : w.heap.size ≤ gb108)); have n5_ := Aside0.mk ((by rw [hg]; exact Nat.ne_of_lt (blk_lt (g := gb107) (o := .cells #[.int .i64 a0_0, .int .i64 a0_1, .int .i64 a0_2, .int .i64 a0_3, .int .i64 a0_4] 37 (0, 0)) (by (with_reducible repeat (first | refine blk_drewN ?_ _ | refine blk_drew ?_ | refine blk_alloc ?_ _)); exact BK107.out)) : gb107 ≠ gb108)); have n6_ := Aside0.mk ((by rw [hg]; exact Nat.ne_of_gt (blk_lt (g := gb107) (o := .cells #[.int .i64 a0_0, .int .i64 a0_1, .int .i64 a0_2, .int .i64 a0_3, .int .i64 a0_4] 37 (0, 0)) (by (with_reducible repeat (first | refine blk_drewN ?_ _ | refine blk_drew ?_ | refine blk_alloc ?_ _)); exact BK107.out)) : gb108 ≠ gb107)); clear BK107; clear HB; have BK107 := n0_; have HB := n1_; have BK108 := n2_; have GW108 := n3_; have GE108 := n4_; have NB107_108 := n5_; have NB108_107 := n6_; clear n0_ n1_ n2_ n3_ n4_ n5_ n6_; clear hb hbox hg))
  (try simp only [Act.put, List.setIfInBounds_toArray, List.set_cons_zero, List.set_cons_succ])
  go_cut [32] (fun v32 wc => ∃ (kq : Nat) (x32_3 : Bool), v32 = .bool x32_3 ∧ Aside0 (spec_SoilStep.j0 kq a1 a2 x32_3 a0_0 a0_1 a0_2 a0_3 a0_4 = some (r1, r2, r3, r4, r5, r6)) ∧ Aside0 (kq ≤ k) ∧ Aside0 (wc.heap[gb107]? = some (.cells #[.int .i64 a0_0, .int .i64 a0_1, .int .i64 a0_2, .int .i64 a0_3, .int .i64 a0_4] 37 (0, 0))) ∧ Aside0 (wc.heap[gb108]? = some (.cells #[.int .i64 0, .int .i64 0, .int .i64 0, .int .i64 0, .int .i64 0] 37 (0, 0))) ∧ Aside0 (Below w.heap.size w wc))
  case first =>
    have H := HC4.out
    clear HC4
    replace H := Option.bind_eq_some_iff.mp H
    obtain ⟨t109, A70, H⟩ := H
    replace H : (if t109 = true then ((spec_l2In.f a1 (-800) 800).bind fun t110 => (if t110 = true then ((spec_l2In.f a2 0 5000).bind fun t111 => (if t111 = true then (spec_SoilStep.j0 k a1 a2 (decide (a0_4 > (wrap64 (1000000000000 - a2)))) a0_0 a0_1 a0_2 a0_3 a0_4) else (spec_SoilStep.j0 k a1 a2 true a0_0 a0_1 a0_2 a0_3 a0_4))) else (spec_SoilStep.j0 k a1 a2 true a0_0 a0_1 a0_2 a0_3 a0_4))) else (spec_SoilStep.j0 k a1 a2 true a0_0 a0_1 a0_2 a0_3 a0_4)) = some (r1, r2, r3, r4, r5, r6) := H
    have A7 := Aside0.mk A70
    clear A70
    by_cases c8 : t109 = true
    · subst c8
      have H1 : ((spec_l2In.f a1 (-800) 800).bind fun t110 => (if t110 = true then ((spec_l2In.f a2 0 5000).bind fun t111 => (if t111 = true then (spec_SoilStep.j0 k a1 a2 (decide (a0_4 > (wrap64 (1000000000000 - a2)))) a0_0 a0_1 a0_2 a0_3 a0_4) else (spec_SoilStep.j0 k a1 a2 true a0_0 a0_1 a0_2 a0_3 a0_4))) else (spec_SoilStep.j0 k a1 a2 true a0_0 a0_1 a0_2 a0_3 a0_4))) = some (r1, r2, r3, r4, r5, r6) := by rw [if_pos rfl] at H; exact H
      clear H
      have H := H1
      clear H1
      replace H := Option.bind_eq_some_iff.mp H
      obtain ⟨t110, A90, H⟩ := H
      replace H : (if t110 = true then ((spec_l2In.f a2 0 5000).bind fun t111 => (if t111 = true then (spec_SoilStep.j0 k a1 a2 (decide (a0_4 > (wrap64 (1000000000000 - a2)))) a0_0 a0_1 a0_2 a0_3 a0_4) else (spec_SoilStep.j0 k a1 a2 true a0_0 a0_1 a0_2 a0_3 a0_4))) else (spec_SoilStep.j0 k a1 a2 true a0_0 a0_1 a0_2 a0_3 a0_4)) = some (r1, r2, r3, r4, r5, r6) := H
      have A9 := Aside0.mk A90
      clear A90
      by_cases c10 : t110 = true
      · subst c10
        have H1 : ((spec_l2In.f a2 0 5000).bind fun t111 => (if t111 = true then (spec_SoilStep.j0 k a1 a2 (decide (a0_4 > (wrap64 (1000000000000 - a2)))) a0_0 a0_1 a0_2 a0_3 a0_4) else (spec_SoilStep.j0 k a1 a2 true a0_0 a0_1 a0_2 a0_3 a0_4))) = some (r1, r2, r3, r4, r5, r6) := by rw [if_pos rfl] at H; exact H
        clear H
        have H := H1
        clear H1
        replace H := Option.bind_eq_some_iff.mp H
        obtain ⟨t111, A110, H⟩ := H
        replace H : (if t111 = true then (spec_SoilStep.j0 k a1 a2 (decide (a0_4 > (wrap64 (1000000000000 - a2)))) a0_0 a0_1 a0_2 a0_3 a0_4) else (spec_SoilStep.j0 k a1 a2 true a0_0 a0_1 a0_2 a0_3 a0_4)) = some (r1, r2, r3, r4, r5, r6) := H
        have A11 := Aside0.mk A110
        clear A110
        by_cases c12 : t111 = true
        · subst c12
          have H1 : (spec_SoilStep.j0 k a1 a2 (decide (a0_4 > (wrap64 (1000000000000 - a2)))) a0_0 a0_1 a0_2 a0_3 a0_4) = some (r1, r2, r3, r4, r5, r6) := by rw [if_pos rfl] at H; exact H
          clear H
          have H := H1
          clear H1
          have H' := Aside0.mk H
          clear H
          have hnb13 := NB107_108.out
          have hnc13 := NB108_107.out
          have hcz14_0 : w6.cell? ⟨gb107, 0, none⟩ = some (.int .i64 a0_0) := (blk_cell BK107.out 0).trans rfl
          have hcz14_1 : w6.cell? ⟨gb107, 1, none⟩ = some (.int .i64 a0_1) := (blk_cell BK107.out 1).trans rfl
          have hcz14_2 : w6.cell? ⟨gb107, 2, none⟩ = some (.int .i64 a0_2) := (blk_cell BK107.out 2).trans rfl
          have hcz14_3 : w6.cell? ⟨gb107, 3, none⟩ = some (.int .i64 a0_3) := (blk_cell BK107.out 3).trans rfl
          have hcz14_4 : w6.cell? ⟨gb107, 4, none⟩ = some (.int .i64 a0_4) := (blk_cell BK107.out 4).trans rfl
          have hfz14_0 := blk_frozen BK107.out 0
          have hfz14_1 := blk_frozen BK107.out 1
          have hfz14_2 := blk_frozen BK107.out 2
          have hfz14_3 := blk_frozen BK107.out 3
          have hfz14_4 := blk_frozen BK107.out 4
          go_wp2_with (first | ((with_reducible refine gate_callee (f := 48) rfl ?_); refine goesL_ (some 14) rfl rfl Try.func48 (by kernel_rfl) rfl #[.agg #[.int .i64 a0_0, .int .i64 a0_1, .int .i64 a0_2, .int .i64 a0_3, .int .i64 a0_4]] rfl (by (try simp only [List.map_toArray, List.map_cons, List.map_nil]); first | done | rfl | (simp only [List.length_drop, List.length_take]; rfl)) ?_; (with_reducible refine (spec_l17SoilOk.calls k a0_0 a0_1 a0_2 a0_3 a0_4 true _ A7.out).mono ?_); rintro e w15 ⟨rfl, hb⟩; refine ⟨_, rfl, ?_⟩; have n0_ := Aside0.mk (blk_below (g := gb107) (o := .cells #[.int .i64 a0_0, .int .i64 a0_1, .int .i64 a0_2, .int .i64 a0_3, .int .i64 a0_4] 37 (0, 0)) (by (with_reducible repeat (first | refine blk_drewN ?_ _ | refine blk_drew ?_ | refine blk_alloc ?_ _)); exact BK107.out) hb); have n1_ := Aside0.mk (blk_below (g := gb108) (o := .cells #[.int .i64 0, .int .i64 0, .int .i64 0, .int .i64 0, .int .i64 0] 37 (0, 0)) (by (with_reducible repeat (first | refine blk_drewN ?_ _ | refine blk_drew ?_ | refine blk_alloc ?_ _)); exact BK108.out) hb); have n2_ := Aside0.mk (below_step (by repeat (first | (with_reducible first | exact HB.out | apply below_alloc | apply pw_below_drewN | apply below_drew1 | refine below_set ?_ GE107.out | refine below_set ?_ GE108.out) | exact HB.out)) hb); clear BK107; clear BK108; clear HB; have BK107 := n0_; have BK108 := n1_; have HB := n2_; clear n0_ n1_ n2_; (try clear hb); (try clear hb2); (try clear hk); (try clear hi)) | (go_at_call 49; (with_reducible refine (spec_l2In.calls a1 (-800) 800 true _ A9.out).mono ?_); rintro e w' ⟨rfl, ⟨nd, rfl⟩⟩) | (go_at_call 49; (with_reducible refine (spec_l2In.calls a2 0 5000 true _ A11.out).mono ?_); rintro e w' ⟨rfl, ⟨nd, rfl⟩⟩; have hcz16_0 : w15.cell? ⟨gb107, 0, none⟩ = some (.int .i64 a0_0) := (blk_cell BK107.out 0).trans rfl; have hcz16_1 : w15.cell? ⟨gb107, 1, none⟩ = some (.int .i64 a0_1) := (blk_cell BK107.out 1).trans rfl; have hcz16_2 : w15.cell? ⟨gb107, 2, none⟩ = some (.int .i64 a0_2) := (blk_cell BK107.out 2).trans rfl; have hcz16_3 : w15.cell? ⟨gb107, 3, none⟩ = some (.int .i64 a0_3) := (blk_cell BK107.out 3).trans rfl; have hcz16_4 : w15.cell? ⟨gb107, 4, none⟩ = some (.int .i64 a0_4) := (blk_cell BK107.out 4).trans rfl; have hfz16_0 := blk_frozen BK107.out 0; have hfz16_1 := blk_frozen BK107.out 1; have hfz16_2 := blk_frozen BK107.out 2; have hfz16_3 := blk_frozen BK107.out 3; have hfz16_4 := blk_frozen BK107.out 4))
          go_meet
          case rel => exact ⟨_, (decide (a0_4 > (wrap64 (1000000000000 - a2)))), (by first | rfl | (simp; done) | (simp [*]; done)), H', ⟨by first | omega | exact Nat.le_refl _⟩, ⟨by (with_reducible repeat (first | refine blk_drewN ?_ _ | refine blk_drew ?_ | refine blk_alloc ?_ _)); exact BK107.out⟩, ⟨by (with_reducible repeat (first | refine blk_drewN ?_ _ | refine blk_drew ?_ | refine blk_alloc ?_ _)); exact BK108.out⟩, ⟨by repeat (first | (with_reducible first | exact HB.out | apply below_alloc | apply pw_below_drewN | apply below_drew1 | refine below_set ?_ GE107.out | refine below_set ?_ GE108.out) | exact HB.out)⟩⟩
        · replace c12 := Bool.eq_false_iff.mpr c12
          subst c12
          have H1 : (spec_SoilStep.j0 k a1 a2 true a0_0 a0_1 a0_2 a0_3 a0_4) = some (r1, r2, r3, r4, r5, r6) := by rw [if_neg (show ¬ (false = true) by decide)] at H; exact H
          clear H
          have H := H1
          clear H1
          have H' := Aside0.mk H
          clear H
          have hnb17 := NB107_108.out
          have hnc17 := NB108_107.out
          have hcz18_0 : w6.cell? ⟨gb107, 0, none⟩ = some (.int .i64 a0_0) := (blk_cell BK107.out 0).trans rfl
          have hcz18_1 : w6.cell? ⟨gb107, 1, none⟩ = some (.int .i64 a0_1) := (blk_cell BK107.out 1).trans rfl
          have hcz18_2 : w6.cell? ⟨gb107, 2, none⟩ = some (.int .i64 a0_2) := (blk_cell BK107.out 2).trans rfl
          have hcz18_3 : w6.cell? ⟨gb107, 3, none⟩ = some (.int .i64 a0_3) := (blk_cell BK107.out 3).trans rfl
          have hcz18_4 : w6.cell? ⟨gb107, 4, none⟩ = some (.int .i64 a0_4) := (blk_cell BK107.out 4).trans rfl
          have hfz18_0 := blk_frozen BK107.out 0
          have hfz18_1 := blk_frozen BK107.out 1
          have hfz18_2 := blk_frozen BK107.out 2
          have hfz18_3 := blk_frozen BK107.out 3
          have hfz18_4 := blk_frozen BK107.out 4
          go_wp2_with (first | ((with_reducible refine gate_callee (f := 48) rfl ?_); refine goesL_ (some 14) rfl rfl Try.func48 (by kernel_rfl) rfl #[.agg #[.int .i64 a0_0, .int .i64 a0_1, .int .i64 a0_2, .int .i64 a0_3, .int .i64 a0_4]] rfl (by (try simp only [List.map_toArray, List.map_cons, List.map_nil]); first | done | rfl | (simp only [List.length_drop, List.length_take]; rfl)) ?_; (with_reducible refine (spec_l17SoilOk.calls k a0_0 a0_1 a0_2 a0_3 a0_4 true _ A7.out).mono ?_); rintro e w19 ⟨rfl, hb⟩; refine ⟨_, rfl, ?_⟩; have n0_ := Aside0.mk (blk_below (g := gb107) (o := .cells #[.int .i64 a0_0, .int .i64 a0_1, .int .i64 a0_2, .int .i64 a0_3, .int .i64 a0_4] 37 (0, 0)) (by (with_reducible repeat (first | refine blk_drewN ?_ _ | refine blk_drew ?_ | refine blk_alloc ?_ _)); exact BK107.out) hb); have n1_ := Aside0.mk (blk_below (g := gb108) (o := .cells #[.int .i64 0, .int .i64 0, .int .i64 0, .int .i64 0, .int .i64 0] 37 (0, 0)) (by (with_reducible repeat (first | refine blk_drewN ?_ _ | refine blk_drew ?_ | refine blk_alloc ?_ _)); exact BK108.out) hb); have n2_ := Aside0.mk (below_step (by repeat (first | (with_reducible first | exact HB.out | apply below_alloc | apply pw_below_drewN | apply below_drew1 | refine below_set ?_ GE107.out | refine below_set ?_ GE108.out) | exact HB.out)) hb); clear BK107; clear BK108; clear HB; have BK107 := n0_; have BK108 := n1_; have HB := n2_; clear n0_ n1_ n2_; (try clear hb); (try clear hb2); (try clear hk); (try clear hi)) | (go_at_call 49; (with_reducible refine (spec_l2In.calls a1 (-800) 800 true _ A9.out).mono ?_); rintro e w' ⟨rfl, ⟨nd, rfl⟩⟩) | (go_at_call 49; (with_reducible refine (spec_l2In.calls a2 0 5000 false _ A11.out).mono ?_); rintro e w' ⟨rfl, ⟨nd, rfl⟩⟩))
          go_meet
          case rel => exact ⟨_, (true), (by first | rfl | (simp; done) | (simp [*]; done)), H', ⟨by first | omega | exact Nat.le_refl _⟩, ⟨by (with_reducible repeat (first | refine blk_drewN ?_ _ | refine blk_drew ?_ | refine blk_alloc ?_ _)); exact BK107.out⟩, ⟨by (with_reducible repeat (first | refine blk_drewN ?_ _ | refine blk_drew ?_ | refine blk_alloc ?_ _)); exact BK108.out⟩, ⟨by repeat (first | (with_reducible first | exact HB.out | apply below_alloc | apply pw_below_drewN | apply below_drew1 | refine below_set ?_ GE107.out | refine below_set ?_ GE108.out) | exact HB.out)⟩⟩
      · replace c10 := Bool.eq_false_iff.mpr c10
        subst c10
        have H1 : (spec_SoilStep.j0 k a1 a2 true a0_0 a0_1 a0_2 a0_3 a0_4) = some (r1, r2, r3, r4, r5, r6) := by rw [if_neg (show ¬ (false = true) by decide)] at H; exact H
        clear H
        have H := H1
        clear H1
        have H' := Aside0.mk H
        clear H
        have hnb20 := NB107_108.out
        have hnc20 := NB108_107.out
        have hcz21_0 : w6.cell? ⟨gb107, 0, none⟩ = some (.int .i64 a0_0) := (blk_cell BK107.out 0).trans rfl
        have hcz21_1 : w6.cell? ⟨gb107, 1, none⟩ = some (.int .i64 a0_1) := (blk_cell BK107.out 1).trans rfl
        have hcz21_2 : w6.cell? ⟨gb107, 2, none⟩ = some (.int .i64 a0_2) := (blk_cell BK107.out 2).trans rfl
        have hcz21_3 : w6.cell? ⟨gb107, 3, none⟩ = some (.int .i64 a0_3) := (blk_cell BK107.out 3).trans rfl
        have hcz21_4 : w6.cell? ⟨gb107, 4, none⟩ = some (.int .i64 a0_4) := (blk_cell BK107.out 4).trans rfl
        have hfz21_0 := blk_frozen BK107.out 0
        have hfz21_1 := blk_frozen BK107.out 1
        have hfz21_2 := blk_frozen BK107.out 2
        have hfz21_3 := blk_frozen BK107.out 3
        have hfz21_4 := blk_frozen BK107.out 4
        go_wp2_with (first | ((with_reducible refine gate_callee (f := 48) rfl ?_); refine goesL_ (some 14) rfl rfl Try.func48 (by kernel_rfl) rfl #[.agg #[.int .i64 a0_0, .int .i64 a0_1, .int .i64 a0_2, .int .i64 a0_3, .int .i64 a0_4]] rfl (by (try simp only [List.map_toArray, List.map_cons, List.map_nil]); first | done | rfl | (simp only [List.length_drop, List.length_take]; rfl)) ?_; (with_reducible refine (spec_l17SoilOk.calls k a0_0 a0_1 a0_2 a0_3 a0_4 true _ A7.out).mono ?_); rintro e w22 ⟨rfl, hb⟩; refine ⟨_, rfl, ?_⟩; have n0_ := Aside0.mk (blk_below (g := gb107) (o := .cells #[.int .i64 a0_0, .int .i64 a0_1, .int .i64 a0_2, .int .i64 a0_3, .int .i64 a0_4] 37 (0, 0)) (by (with_reducible repeat (first | refine blk_drewN ?_ _ | refine blk_drew ?_ | refine blk_alloc ?_ _)); exact BK107.out) hb); have n1_ := Aside0.mk (blk_below (g := gb108) (o := .cells #[.int .i64 0, .int .i64 0, .int .i64 0, .int .i64 0, .int .i64 0] 37 (0, 0)) (by (with_reducible repeat (first | refine blk_drewN ?_ _ | refine blk_drew ?_ | refine blk_alloc ?_ _)); exact BK108.out) hb); have n2_ := Aside0.mk (below_step (by repeat (first | (with_reducible first | exact HB.out | apply below_alloc | apply pw_below_drewN | apply below_drew1 | refine below_set ?_ GE107.out | refine below_set ?_ GE108.out) | exact HB.out)) hb); clear BK107; clear BK108; clear HB; have BK107 := n0_; have BK108 := n1_; have HB := n2_; clear n0_ n1_ n2_; (try clear hb); (try clear hb2); (try clear hk); (try clear hi)) | (go_at_call 49; (with_reducible refine (spec_l2In.calls a1 (-800) 800 false _ A9.out).mono ?_); rintro e w' ⟨rfl, ⟨nd, rfl⟩⟩))
        go_meet
        case rel => exact ⟨_, (true), (by first | rfl | (simp; done) | (simp [*]; done)), H', ⟨by first | omega | exact Nat.le_refl _⟩, ⟨by (with_reducible repeat (first | refine blk_drewN ?_ _ | refine blk_drew ?_ | refine blk_alloc ?_ _)); exact BK107.out⟩, ⟨by (with_reducible repeat (first | refine blk_drewN ?_ _ | refine blk_drew ?_ | refine blk_alloc ?_ _)); exact BK108.out⟩, ⟨by repeat (first | (with_reducible first | exact HB.out | apply below_alloc | apply pw_below_drewN | apply below_drew1 | refine below_set ?_ GE107.out | refine below_set ?_ GE108.out) | exact HB.out)⟩⟩
    · replace c8 := Bool.eq_false_iff.mpr c8
      subst c8
      have H1 : (spec_SoilStep.j0 k a1 a2 true a0_0 a0_1 a0_2 a0_3 a0_4) = some (r1, r2, r3, r4, r5, r6) := by rw [if_neg (show ¬ (false = true) by decide)] at H; exact H
      clear H
      have H := H1
      clear H1
      have H' := Aside0.mk H
      clear H
      have hnb23 := NB107_108.out
      have hnc23 := NB108_107.out
      have hcz24_0 : w6.cell? ⟨gb107, 0, none⟩ = some (.int .i64 a0_0) := (blk_cell BK107.out 0).trans rfl
      have hcz24_1 : w6.cell? ⟨gb107, 1, none⟩ = some (.int .i64 a0_1) := (blk_cell BK107.out 1).trans rfl
      have hcz24_2 : w6.cell? ⟨gb107, 2, none⟩ = some (.int .i64 a0_2) := (blk_cell BK107.out 2).trans rfl
      have hcz24_3 : w6.cell? ⟨gb107, 3, none⟩ = some (.int .i64 a0_3) := (blk_cell BK107.out 3).trans rfl
      have hcz24_4 : w6.cell? ⟨gb107, 4, none⟩ = some (.int .i64 a0_4) := (blk_cell BK107.out 4).trans rfl
      have hfz24_0 := blk_frozen BK107.out 0
      have hfz24_1 := blk_frozen BK107.out 1
      have hfz24_2 := blk_frozen BK107.out 2
      have hfz24_3 := blk_frozen BK107.out 3
      have hfz24_4 := blk_frozen BK107.out 4
      go_wp2_with (first | ((with_reducible refine gate_callee (f := 48) rfl ?_); refine goesL_ (some 14) rfl rfl Try.func48 (by kernel_rfl) rfl #[.agg #[.int .i64 a0_0, .int .i64 a0_1, .int .i64 a0_2, .int .i64 a0_3, .int .i64 a0_4]] rfl (by (try simp only [List.map_toArray, List.map_cons, List.map_nil]); first | done | rfl | (simp only [List.length_drop, List.length_take]; rfl)) ?_; (with_reducible refine (spec_l17SoilOk.calls k a0_0 a0_1 a0_2 a0_3 a0_4 false _ A7.out).mono ?_); rintro e w25 ⟨rfl, hb⟩; refine ⟨_, rfl, ?_⟩; have n0_ := Aside0.mk (blk_below (g := gb107) (o := .cells #[.int .i64 a0_0, .int .i64 a0_1, .int .i64 a0_2, .int .i64 a0_3, .int .i64 a0_4] 37 (0, 0)) (by (with_reducible repeat (first | refine blk_drewN ?_ _ | refine blk_drew ?_ | refine blk_alloc ?_ _)); exact BK107.out) hb); have n1_ := Aside0.mk (blk_below (g := gb108) (o := .cells #[.int .i64 0, .int .i64 0, .int .i64 0, .int .i64 0, .int .i64 0] 37 (0, 0)) (by (with_reducible repeat (first | refine blk_drewN ?_ _ | refine blk_drew ?_ | refine blk_alloc ?_ _)); exact BK108.out) hb); have n2_ := Aside0.mk (below_step (by repeat (first | (with_reducible first | exact HB.out | apply below_alloc | apply pw_below_drewN | apply below_drew1 | refine below_set ?_ GE107.out | refine below_set ?_ GE108.out) | exact HB.out)) hb); clear BK107; clear BK108; clear HB; have BK107 := n0_; have BK108 := n1_; have HB := n2_; clear n0_ n1_ n2_; (try clear hb); (try clear hb2); (try clear hk); (try clear hi)))
      go_meet
      case rel => exact ⟨_, (true), (by first | rfl | (simp; done) | (simp [*]; done)), H', ⟨by first | omega | exact Nat.le_refl _⟩, ⟨by (with_reducible repeat (first | refine blk_drewN ?_ _ | refine blk_drew ?_ | refine blk_alloc ?_ _)); exact BK107.out⟩, ⟨by (with_reducible repeat (first | refine blk_drewN ?_ _ | refine blk_drew ?_ | refine blk_alloc ?_ _)); exact BK108.out⟩, ⟨by repeat (first | (with_reducible first | exact HB.out | apply below_alloc | apply pw_below_drewN | apply below_drew1 | refine below_set ?_ GE107.out | refine below_set ?_ GE108.out) | exact HB.out)⟩⟩
  case rest =>
    clear HC4
    try clear c1
    try clear c2
    try clear p2
    try clear c4
    try clear p6
    try clear c8
    try clear c10
    try clear c12
    try clear c13
    try clear c17
    try clear c20
    try clear c22
    try clear c23
    try clear hcz14_0
    try clear hcz14_1
    try clear hcz14_2
    try clear hcz14_3
    try clear hcz14_4
    try clear hcz16_0
    try clear hcz16_1
    try clear hcz16_2
    try clear hcz16_3
    try clear hcz16_4
    try clear hcz18_0
    try clear hcz18_1
    try clear hcz18_2
    try clear hcz18_3
    try clear hcz18_4
    try clear hcz21_0
    try clear hcz21_1
    try clear hcz21_2
    try clear hcz21_3
    try clear hcz21_4
    try clear hcz24_0
    try clear hcz24_1
    try clear hcz24_2
    try clear hcz24_3
    try clear hcz24_4
    try clear hfz14_0
    try clear hfz14_1
    try clear hfz14_2
    try clear hfz14_3
    try clear hfz14_4
    try clear hfz16_0
    try clear hfz16_1
    try clear hfz16_2
    try clear hfz16_3
    try clear hfz16_4
    try clear hfz18_0
    try clear hfz18_1
    try clear hfz18_2
    try clear hfz18_3
    try clear hfz18_4
    try clear hfz21_0
    try clear hfz21_1
    try clear hfz21_2
    try clear hfz21_3
    try clear hfz21_4
    try clear hfz24_0
    try clear hfz24_1
    try clear hfz24_2
    try clear hfz24_3
    try clear hfz24_4
    obtain ⟨kq, x32_3, rfl, HA, HJ3, BK107, BK108, HB⟩ := hcut
    cases kq with
    | zero => exact absurd HA.out (by simp [spec_SoilStep.j0])
    | succ kj3 =>
      have H := HA.out
      clear HA
      simp only [spec_SoilStep.j0] at H
      by_cases c26 : x32_3 = true
      · subst c26
        have H1 : (some (0, 0, 0, 0, 0, false)) = some (r1, r2, r3, r4, r5, r6) := by rw [if_pos rfl] at H; exact H
        clear H
        have H := H1
        clear H1
        simp only [Option.some.injEq, Prod.mk.injEq] at H
        obtain ⟨rfl, rfl, rfl, rfl, rfl, rfl⟩ := H
        have hnb27 := NB108_107.out
        have hnc27 := NB107_108.out
        have hcz28_0 : wc.cell? ⟨gb108, 0, none⟩ = some (.int .i64 0) := (blk_cell BK108.out 0).trans rfl
        have hcz28_1 : wc.cell? ⟨gb108, 1, none⟩ = some (.int .i64 0) := (blk_cell BK108.out 1).trans rfl
        have hcz28_2 : wc.cell? ⟨gb108, 2, none⟩ = some (.int .i64 0) := (blk_cell BK108.out 2).trans rfl
        have hcz28_3 : wc.cell? ⟨gb108, 3, none⟩ = some (.int .i64 0) := (blk_cell BK108.out 3).trans rfl
        have hcz28_4 : wc.cell? ⟨gb108, 4, none⟩ = some (.int .i64 0) := (blk_cell BK108.out 4).trans rfl
        have hfz28_0 := blk_frozen BK108.out 0
        have hfz28_1 := blk_frozen BK108.out 1
        have hfz28_2 := blk_frozen BK108.out 2
        have hfz28_3 := blk_frozen BK108.out 3
        have hfz28_4 := blk_frozen BK108.out 4
        go_wp2
        refine bodyPost_ret (results_ct rfl _ _ gb108 37 #[.int .i64 0, .int .i64 0, .int .i64 0, .int .i64 0, .int .i64 0] (0, 0) _ rfl (by (with_reducible repeat (first | refine blk_drewN ?_ _ | refine blk_drew ?_ | refine blk_alloc ?_ _)); refine blk_put (cs := #[.int .i64 0, .int .i64 0, .int .i64 0, .int .i64 0, .int .i64 0]) ?_ 4 _ rfl; (with_reducible repeat (first | refine blk_drewN ?_ _ | refine blk_drew ?_ | refine blk_alloc ?_ _)); refine blk_put (cs := #[.int .i64 0, .int .i64 0, .int .i64 0, .int .i64 0, .int .i64 0]) ?_ 3 _ rfl; (with_reducible repeat (first | refine blk_drewN ?_ _ | refine blk_drew ?_ | refine blk_alloc ?_ _)); refine blk_put (cs := #[.int .i64 0, .int .i64 0, .int .i64 0, .int .i64 0, .int .i64 0]) ?_ 2 _ rfl; (with_reducible repeat (first | refine blk_drewN ?_ _ | refine blk_drew ?_ | refine blk_alloc ?_ _)); refine blk_put (cs := #[.int .i64 0, .int .i64 0, .int .i64 0, .int .i64 0, .int .i64 0]) ?_ 1 _ rfl; (with_reducible repeat (first | refine blk_drewN ?_ _ | refine blk_drew ?_ | refine blk_alloc ?_ _)); refine blk_put (cs := #[.int .i64 0, .int .i64 0, .int .i64 0, .int .i64 0, .int .i64 0]) ?_ 0 _ rfl; (with_reducible repeat (first | refine blk_drewN ?_ _ | refine blk_drew ?_ | refine blk_alloc ?_ _)); exact BK108.out) Try.underlying37 rfl (by kernel_rfl)) rfl ?_
        exact ⟨by first | rfl | (simp [errW_none, errW_some] <;> rfl) | (simp [*, errW_none, errW_some] <;> rfl), by repeat (first | (with_reducible first | exact HB.out | apply below_alloc | apply pw_below_drewN | apply below_drew1 | refine below_set ?_ GE107.out | refine below_set ?_ GE108.out) | exact HB.out)⟩
      · replace c26 := Bool.eq_false_iff.mpr c26
        subst c26
        have H1 : (if a1 < 0 then (spec_SoilStep.j1 kj3 a1 (wrap64 (a0_0 + a2)) a0_1 a0_2 a0_3 (wrap64 (a0_4 + a2))) else (spec_SoilStep.j1 kj3 a1 a0_0 (wrap64 (a0_1 + a2)) a0_2 a0_3 (wrap64 (a0_4 + a2)))) = some (r1, r2, r3, r4, r5, r6) := by rw [if_neg (show ¬ (false = true) by decide)] at H; exact H
        clear H
        have H := H1
        clear H1
        have HC29 := Aside0.mk H
        clear H
        have hnb30 := NB107_108.out
        have hnc30 := NB108_107.out
        have hcz31_0 : wc.cell? ⟨gb107, 0, none⟩ = some (.int .i64 a0_0) := (blk_cell BK107.out 0).trans rfl
        have hcz31_1 : wc.cell? ⟨gb107, 1, none⟩ = some (.int .i64 a0_1) := (blk_cell BK107.out 1).trans rfl
        have hcz31_2 : wc.cell? ⟨gb107, 2, none⟩ = some (.int .i64 a0_2) := (blk_cell BK107.out 2).trans rfl
        have hcz31_3 : wc.cell? ⟨gb107, 3, none⟩ = some (.int .i64 a0_3) := (blk_cell BK107.out 3).trans rfl
        have hcz31_4 : wc.cell? ⟨gb107, 4, none⟩ = some (.int .i64 a0_4) := (blk_cell BK107.out 4).trans rfl
        have hfz31_0 := blk_frozen BK107.out 0
        have hfz31_1 := blk_frozen BK107.out 1
        have hfz31_2 := blk_frozen BK107.out 2
        have hfz31_3 := blk_frozen BK107.out 3
        have hfz31_4 := blk_frozen BK107.out 4
        go_upto_if 40 with (fail)
        go_cut [] (fun wc => ∃ (kq : Nat) (x108000_28 : Int) (x108001_28 : Int), Aside0 (spec_SoilStep.j1 kq a1 x108000_28 x108001_28 a0_2 a0_3 (wrap64 (a0_4 + a2)) = some (r1, r2, r3, r4, r5, r6)) ∧ Aside0 (kq ≤ kj3) ∧ Aside0 (wc.heap[gb107]? = some (.cells #[.int .i64 x108000_28, .int .i64 x108001_28, .int .i64 a0_2, .int .i64 a0_3, .int .i64 (wrap64 (a0_4 + a2))] 37 (0, 0))) ∧ Aside0 (wc.heap[gb108]? = some (.cells #[.int .i64 0, .int .i64 0, .int .i64 0, .int .i64 0, .int .i64 0] 37 (0, 0))) ∧ Aside0 (Below w.heap.size w wc))
        case first =>
          have H := HC29.out
          clear HC29
          by_cases c32 : a1 < 0
          · rw [if_pos c32] at H
            have c32b0 : decide (a1 < 0) = true := decide_eq_true c32
            clear c32
            (first | rw [c32b0] | (simp only [i64_w, i32_w]; rw [c32b0]) | skip)
            have H' := Aside0.mk H
            clear H
            have hnb33 := NB107_108.out
            have hnc33 := NB108_107.out
            have hcz34_0 : wc.cell? ⟨gb107, 0, none⟩ = some (.int .i64 a0_0) := (blk_cell BK107.out 0).trans rfl
            have hcz34_1 : wc.cell? ⟨gb107, 1, none⟩ = some (.int .i64 a0_1) := (blk_cell BK107.out 1).trans rfl
            have hcz34_2 : wc.cell? ⟨gb107, 2, none⟩ = some (.int .i64 a0_2) := (blk_cell BK107.out 2).trans rfl
            have hcz34_3 : wc.cell? ⟨gb107, 3, none⟩ = some (.int .i64 a0_3) := (blk_cell BK107.out 3).trans rfl
            have hcz34_4 : wc.cell? ⟨gb107, 4, none⟩ = some (.int .i64 a0_4) := (blk_cell BK107.out 4).trans rfl
            have hfz34_0 := blk_frozen BK107.out 0
            have hfz34_1 := blk_frozen BK107.out 1
            have hfz34_2 := blk_frozen BK107.out 2
            have hfz34_3 := blk_frozen BK107.out 3
            have hfz34_4 := blk_frozen BK107.out 4
            go_wp2
            go_meet
            case rel => exact ⟨_, (wrap64 (a0_0 + a2)), (a0_1), H', ⟨by have := HJ3.out; first | omega | exact Nat.le_refl _⟩, ⟨by (with_reducible repeat (first | refine blk_drewN ?_ _ | refine blk_drew ?_ | refine blk_alloc ?_ _)); refine blk_put (cs := #[.int .i64 a0_0, .int .i64 a0_1, .int .i64 a0_2, .int .i64 a0_3, .int .i64 (wrap64 (a0_4 + a2))]) ?_ 0 _ rfl; (with_reducible repeat (first | refine blk_drewN ?_ _ | refine blk_drew ?_ | refine blk_alloc ?_ _)); refine blk_put (cs := #[.int .i64 a0_0, .int .i64 a0_1, .int .i64 a0_2, .int .i64 a0_3, .int .i64 a0_4]) ?_ 4 _ rfl; (with_reducible repeat (first | refine blk_drewN ?_ _ | refine blk_drew ?_ | refine blk_alloc ?_ _)); exact BK107.out⟩, ⟨by (with_reducible repeat (first | refine blk_drewN ?_ _ | refine blk_drew ?_ | refine blk_alloc ?_ _)); refine blk_far ?_ NB108_107.out _; (with_reducible repeat (first | refine blk_drewN ?_ _ | refine blk_drew ?_ | refine blk_alloc ?_ _)); refine blk_far ?_ NB108_107.out _; (with_reducible repeat (first | refine blk_drewN ?_ _ | refine blk_drew ?_ | refine blk_alloc ?_ _)); exact BK108.out⟩, ⟨by repeat (first | (with_reducible first | exact HB.out | apply below_alloc | apply pw_below_drewN | apply below_drew1 | refine below_set ?_ GE107.out | refine below_set ?_ GE108.out) | exact HB.out)⟩⟩
          · rw [if_neg c32] at H
            have c32b0 : decide (a1 < 0) = false := decide_eq_false c32
            clear c32
            (first | rw [c32b0] | (simp only [i64_w, i32_w]; rw [c32b0]) | skip)
            have H' := Aside0.mk H
            clear H
            have hnb35 := NB107_108.out
            have hnc35 := NB108_107.out
            have hcz36_0 : wc.cell? ⟨gb107, 0, none⟩ = some (.int .i64 a0_0) := (blk_cell BK107.out 0).trans rfl
            have hcz36_1 : wc.cell? ⟨gb107, 1, none⟩ = some (.int .i64 a0_1) := (blk_cell BK107.out 1).trans rfl
            have hcz36_2 : wc.cell? ⟨gb107, 2, none⟩ = some (.int .i64 a0_2) := (blk_cell BK107.out 2).trans rfl
            have hcz36_3 : wc.cell? ⟨gb107, 3, none⟩ = some (.int .i64 a0_3) := (blk_cell BK107.out 3).trans rfl
            have hcz36_4 : wc.cell? ⟨gb107, 4, none⟩ = some (.int .i64 a0_4) := (blk_cell BK107.out 4).trans rfl
            have hfz36_0 := blk_frozen BK107.out 0
            have hfz36_1 := blk_frozen BK107.out 1
            have hfz36_2 := blk_frozen BK107.out 2
            have hfz36_3 := blk_frozen BK107.out 3
            have hfz36_4 := blk_frozen BK107.out 4
            go_wp2
            go_meet
            case rel => exact ⟨_, (a0_0), (wrap64 (a0_1 + a2)), H', ⟨by have := HJ3.out; first | omega | exact Nat.le_refl _⟩, ⟨by (with_reducible repeat (first | refine blk_drewN ?_ _ | refine blk_drew ?_ | refine blk_alloc ?_ _)); refine blk_put (cs := #[.int .i64 a0_0, .int .i64 a0_1, .int .i64 a0_2, .int .i64 a0_3, .int .i64 (wrap64 (a0_4 + a2))]) ?_ 1 _ rfl; (with_reducible repeat (first | refine blk_drewN ?_ _ | refine blk_drew ?_ | refine blk_alloc ?_ _)); refine blk_put (cs := #[.int .i64 a0_0, .int .i64 a0_1, .int .i64 a0_2, .int .i64 a0_3, .int .i64 a0_4]) ?_ 4 _ rfl; (with_reducible repeat (first | refine blk_drewN ?_ _ | refine blk_drew ?_ | refine blk_alloc ?_ _)); exact BK107.out⟩, ⟨by (with_reducible repeat (first | refine blk_drewN ?_ _ | refine blk_drew ?_ | refine blk_alloc ?_ _)); refine blk_far ?_ NB108_107.out _; (with_reducible repeat (first | refine blk_drewN ?_ _ | refine blk_drew ?_ | refine blk_alloc ?_ _)); refine blk_far ?_ NB108_107.out _; (with_reducible repeat (first | refine blk_drewN ?_ _ | refine blk_drew ?_ | refine blk_alloc ?_ _)); exact BK108.out⟩, ⟨by repeat (first | (with_reducible first | exact HB.out | apply below_alloc | apply pw_below_drewN | apply below_drew1 | refine below_set ?_ GE107.out | refine below_set ?_ GE108.out) | exact HB.out)⟩⟩
        case rest =>
          clear HC29
          try clear c1
          try clear c2
          try clear p2
          try clear c3
          try clear c4
          try clear p6
          try clear c8
          try clear c10
          try clear c12
          try clear c13
          try clear c17
          try clear c20
          try clear c22
          try clear c23
          try clear c26
          try clear c27
          try clear c30
          try clear c32
          try clear c32b0
          try clear c33
          try clear c35
          try clear hcz14_0
          try clear hcz14_1
          try clear hcz14_2
          try clear hcz14_3
          try clear hcz14_4
          try clear hcz16_0
          try clear hcz16_1
          try clear hcz16_2
          try clear hcz16_3
          try clear hcz16_4
          try clear hcz18_0
          try clear hcz18_1
          try clear hcz18_2
          try clear hcz18_3
          try clear hcz18_4
          try clear hcz21_0
          try clear hcz21_1
          try clear hcz21_2
          try clear hcz21_3
          try clear hcz21_4
          try clear hcz24_0
          try clear hcz24_1
          try clear hcz24_2
          try clear hcz24_3
          try clear hcz24_4
          try clear hcz28_0
          try clear hcz28_1
          try clear hcz28_2
          try clear hcz28_3
          try clear hcz28_4
          try clear hcz31_0
          try clear hcz31_1
          try clear hcz31_2
          try clear hcz31_3
          try clear hcz31_4
          try clear hcz34_0
          try clear hcz34_1
          try clear hcz34_2
          try clear hcz34_3
          try clear hcz34_4
          try clear hcz36_0
          try clear hcz36_1
          try clear hcz36_2
          try clear hcz36_3
          try clear hcz36_4
          try clear hfz14_0
          try clear hfz14_1
          try clear hfz14_2
          try clear hfz14_3
          try clear hfz14_4
          try clear hfz16_0
          try clear hfz16_1
          try clear hfz16_2
          try clear hfz16_3
          try clear hfz16_4
          try clear hfz18_0
          try clear hfz18_1
          try clear hfz18_2
          try clear hfz18_3
          try clear hfz18_4
          try clear hfz21_0
          try clear hfz21_1
          try clear hfz21_2
          try clear hfz21_3
          try clear hfz21_4
          try clear hfz24_0
          try clear hfz24_1
          try clear hfz24_2
          try clear hfz24_3
          try clear hfz24_4
          try clear hfz28_0
          try clear hfz28_1
          try clear hfz28_2
          try clear hfz28_3
          try clear hfz28_4
          try clear hfz31_0
          try clear hfz31_1
          try clear hfz31_2
          try clear hfz31_3
          try clear hfz31_4
          try clear hfz34_0
          try clear hfz34_1
          try clear hfz34_2
          try clear hfz34_3
          try clear hfz34_4
          try clear hfz36_0
          try clear hfz36_1
          try clear hfz36_2
          try clear hfz36_3
          try clear hfz36_4
          try clear p2
          try clear p6
          obtain ⟨kq, x108000_28, x108001_28, HA, HJ28, BK107, BK108, HB⟩ := hcut
          cases kq with
          | zero => exact absurd HA.out (by simp [spec_SoilStep.j1])
          | succ kj28 =>
            have H := HA.out
            clear HA
            simp only [spec_SoilStep.j1] at H
            have HC37 := Aside0.mk H
            clear H
            go_upto_if 52 with (fail)
            go_cut [] (fun wc => ∃ (kq : Nat) (x108000_36 : Int) (x108001_36 : Int) (x108003_36 : Int), Aside0 (spec_SoilStep.j2 kq x108000_36 x108001_36 a0_2 x108003_36 (wrap64 (a0_4 + a2)) = some (r1, r2, r3, r4, r5, r6)) ∧ Aside0 (kq ≤ kj28) ∧ Aside0 (wc.heap[gb107]? = some (.cells #[.int .i64 x108000_36, .int .i64 x108001_36, .int .i64 a0_2, .int .i64 x108003_36, .int .i64 (wrap64 (a0_4 + a2))] 37 (0, 0))) ∧ Aside0 (wc.heap[gb108]? = some (.cells #[.int .i64 0, .int .i64 0, .int .i64 0, .int .i64 0, .int .i64 0] 37 (0, 0))) ∧ Aside0 (Below w.heap.size w wc))
            case first =>
              have H := HC37.out
              clear HC37
              by_cases c38 : a1 > 0
              · rw [if_pos c38] at H
                have c38b0 : decide (0 < a1) = true := decide_eq_true c38
                clear c38
                (first | rw [c38b0] | (simp only [i64_w, i32_w]; rw [c38b0]) | skip)
                obtain ⟨ji39, hji39⟩ : ∃ j_ : Int, (mn x108000_28 (wrap64 (Int.tdiv (wrap64 (3 * a1)) 10))) = j_ := ⟨_, rfl⟩
                replace H : (spec_SoilStep.j2 kj28 (wrap64 (x108000_28 - (ji39))) (wrap64 ((wrap64 (x108001_28 + (ji39))) - (mn (wrap64 (x108001_28 + (ji39))) (wrap64 (Int.tdiv a1 20))))) a0_2 (wrap64 (a0_3 + (mn (wrap64 (x108001_28 + (ji39))) (wrap64 (Int.tdiv a1 20))))) (wrap64 (a0_4 + a2))) = some (r1, r2, r3, r4, r5, r6) := by first | (rw [hji39] at H; exact H) | (simp only [hji39] at H ⊢; exact H)
                have hji39_ : (if (wrap64 (Int.tdiv (wrap64 (3 * a1)) 10)) < x108000_28 then (wrap64 (Int.tdiv (wrap64 (3 * a1)) 10)) else x108000_28) = ji39 := hji39
                obtain ⟨ji40, hji40⟩ : ∃ j_ : Int, (mn (wrap64 (x108001_28 + (ji39))) (wrap64 (Int.tdiv a1 20))) = j_ := ⟨_, rfl⟩
                replace H : (spec_SoilStep.j2 kj28 (wrap64 (x108000_28 - (ji39))) (wrap64 ((wrap64 (x108001_28 + (ji39))) - (ji40))) a0_2 (wrap64 (a0_3 + (ji40))) (wrap64 (a0_4 + a2))) = some (r1, r2, r3, r4, r5, r6) := by first | (rw [hji40] at H; exact H) | (simp only [hji40] at H ⊢; exact H)
                have hji40_ : (if (wrap64 (Int.tdiv a1 20)) < (wrap64 (x108001_28 + (ji39))) then (wrap64 (Int.tdiv a1 20)) else (wrap64 (x108001_28 + (ji39)))) = ji40 := hji40
                have H' := Aside0.mk H
                clear H
                have hnb41 := NB107_108.out
                have hnc41 := NB108_107.out
                have hcz42_0 : wc.cell? ⟨gb107, 0, none⟩ = some (.int .i64 x108000_28) := (blk_cell BK107.out 0).trans rfl
                have hcz42_1 : wc.cell? ⟨gb107, 1, none⟩ = some (.int .i64 x108001_28) := (blk_cell BK107.out 1).trans rfl
                have hcz42_2 : wc.cell? ⟨gb107, 2, none⟩ = some (.int .i64 a0_2) := (blk_cell BK107.out 2).trans rfl
                have hcz42_3 : wc.cell? ⟨gb107, 3, none⟩ = some (.int .i64 a0_3) := (blk_cell BK107.out 3).trans rfl
                have hcz42_4 : wc.cell? ⟨gb107, 4, none⟩ = some (.int .i64 (wrap64 (a0_4 + a2))) := (blk_cell BK107.out 4).trans rfl
                have hfz42_0 := blk_frozen BK107.out 0
                have hfz42_1 := blk_frozen BK107.out 1
                have hfz42_2 := blk_frozen BK107.out 2
                have hfz42_3 := blk_frozen BK107.out 3
                have hfz42_4 := blk_frozen BK107.out 4
                go_wp2
                go_meet
                case rel => exact ⟨_, (wrap64 (x108000_28 - (ji39))), (wrap64 ((wrap64 (x108001_28 + (ji39))) - (ji40))), (wrap64 (a0_3 + (ji40))), H', ⟨by have := HJ3.out; have := HJ28.out; first | omega | exact Nat.le_refl _⟩, ⟨by (with_reducible repeat (first | refine blk_drewN ?_ _ | refine blk_drew ?_ | refine blk_alloc ?_ _)); refine blk_put (cs := #[.int .i64 (wrap64 (x108000_28 - (ji39))), .int .i64 (wrap64 ((wrap64 (x108001_28 + (ji39))) - (ji40))), .int .i64 a0_2, .int .i64 a0_3, .int .i64 (wrap64 (a0_4 + a2))]) ?_ 3 _ rfl; (with_reducible repeat (first | refine blk_drewN ?_ _ | refine blk_drew ?_ | refine blk_alloc ?_ _)); refine blk_put (cs := #[.int .i64 (wrap64 (x108000_28 - (ji39))), .int .i64 (wrap64 (x108001_28 + (ji39))), .int .i64 a0_2, .int .i64 a0_3, .int .i64 (wrap64 (a0_4 + a2))]) ?_ 1 _ rfl; (with_reducible repeat (first | refine blk_drewN ?_ _ | refine blk_drew ?_ | refine blk_alloc ?_ _)); refine blk_put (cs := #[.int .i64 (wrap64 (x108000_28 - (ji39))), .int .i64 x108001_28, .int .i64 a0_2, .int .i64 a0_3, .int .i64 (wrap64 (a0_4 + a2))]) ?_ 1 _ rfl; (with_reducible repeat (first | refine blk_drewN ?_ _ | refine blk_drew ?_ | refine blk_alloc ?_ _)); refine blk_put (cs := #[.int .i64 x108000_28, .int .i64 x108001_28, .int .i64 a0_2, .int .i64 a0_3, .int .i64 (wrap64 (a0_4 + a2))]) ?_ 0 _ rfl; (with_reducible repeat (first | refine blk_drewN ?_ _ | refine blk_drew ?_ | refine blk_alloc ?_ _)); exact BK107.out⟩, ⟨by (with_reducible repeat (first | refine blk_drewN ?_ _ | refine blk_drew ?_ | refine blk_alloc ?_ _)); refine blk_far ?_ NB108_107.out _; (with_reducible repeat (first | refine blk_drewN ?_ _ | refine blk_drew ?_ | refine blk_alloc ?_ _)); refine blk_far ?_ NB108_107.out _; (with_reducible repeat (first | refine blk_drewN ?_ _ | refine blk_drew ?_ | refine blk_alloc ?_ _)); refine blk_far ?_ NB108_107.out _; (with_reducible repeat (first | refine blk_drewN ?_ _ | refine blk_drew ?_ | refine blk_alloc ?_ _)); refine blk_far ?_ NB108_107.out _; (with_reducible repeat (first | refine blk_drewN ?_ _ | refine blk_drew ?_ | refine blk_alloc ?_ _)); exact BK108.out⟩, ⟨by repeat (first | (with_reducible first | exact HB.out | apply below_alloc | apply pw_below_drewN | apply below_drew1 | refine below_set ?_ GE107.out | refine below_set ?_ GE108.out) | exact HB.out)⟩⟩
              · rw [if_neg c38] at H
                have c38b0 : decide (0 < a1) = false := decide_eq_false c38
                clear c38
                (first | rw [c38b0] | (simp only [i64_w, i32_w]; rw [c38b0]) | skip)
                have H' := Aside0.mk H
                clear H
                go_wp2
                go_meet
                case rel => exact ⟨_, (x108000_28), (x108001_28), (a0_3), H', ⟨by have := HJ3.out; have := HJ28.out; first | omega | exact Nat.le_refl _⟩, ⟨by (with_reducible repeat (first | refine blk_drewN ?_ _ | refine blk_drew ?_ | refine blk_alloc ?_ _)); exact BK107.out⟩, ⟨by (with_reducible repeat (first | refine blk_drewN ?_ _ | refine blk_drew ?_ | refine blk_alloc ?_ _)); exact BK108.out⟩, ⟨by repeat (first | (with_reducible first | exact HB.out | apply below_alloc | apply pw_below_drewN | apply below_drew1 | refine below_set ?_ GE107.out | refine below_set ?_ GE108.out) | exact HB.out)⟩⟩
            case rest =>
              clear HC37
              try clear c1
              try clear c2
              try clear p2
              try clear c3
              try clear c4
              try clear p6
              try clear c8
              try clear c10
              try clear c12
              try clear c13
              try clear c17
              try clear c20
              try clear c22
              try clear c23
              try clear c26
              try clear c27
              try clear c30
              try clear c32
              try clear c32b0
              try clear c33
              try clear c35
              try clear c38
              try clear c38b0
              try clear c41
              try clear hcz14_0
              try clear hcz14_1
              try clear hcz14_2
              try clear hcz14_3
              try clear hcz14_4
              try clear hcz16_0
              try clear hcz16_1
              try clear hcz16_2
              try clear hcz16_3
              try clear hcz16_4
              try clear hcz18_0
              try clear hcz18_1
              try clear hcz18_2
              try clear hcz18_3
              try clear hcz18_4
              try clear hcz21_0
              try clear hcz21_1
              try clear hcz21_2
              try clear hcz21_3
              try clear hcz21_4
              try clear hcz24_0
              try clear hcz24_1
              try clear hcz24_2
              try clear hcz24_3
              try clear hcz24_4
              try clear hcz28_0
              try clear hcz28_1
              try clear hcz28_2
              try clear hcz28_3
              try clear hcz28_4
              try clear hcz31_0
              try clear hcz31_1
              try clear hcz31_2
              try clear hcz31_3
              try clear hcz31_4
              try clear hcz34_0
              try clear hcz34_1
              try clear hcz34_2
              try clear hcz34_3
              try clear hcz34_4
              try clear hcz36_0
              try clear hcz36_1
              try clear hcz36_2
              try clear hcz36_3
              try clear hcz36_4
              try clear hcz42_0
              try clear hcz42_1
              try clear hcz42_2
              try clear hcz42_3
              try clear hcz42_4
              try clear hfz14_0
              try clear hfz14_1
              try clear hfz14_2
              try clear hfz14_3
              try clear hfz14_4
              try clear hfz16_0
              try clear hfz16_1
              try clear hfz16_2
              try clear hfz16_3
              try clear hfz16_4
              try clear hfz18_0
              try clear hfz18_1
              try clear hfz18_2
              try clear hfz18_3
              try clear hfz18_4
              try clear hfz21_0
              try clear hfz21_1
              try clear hfz21_2
              try clear hfz21_3
              try clear hfz21_4
              try clear hfz24_0
              try clear hfz24_1
              try clear hfz24_2
              try clear hfz24_3
              try clear hfz24_4
              try clear hfz28_0
              try clear hfz28_1
              try clear hfz28_2
              try clear hfz28_3
              try clear hfz28_4
              try clear hfz31_0
              try clear hfz31_1
              try clear hfz31_2
              try clear hfz31_3
              try clear hfz31_4
              try clear hfz34_0
              try clear hfz34_1
              try clear hfz34_2
              try clear hfz34_3
              try clear hfz34_4
              try clear hfz36_0
              try clear hfz36_1
              try clear hfz36_2
              try clear hfz36_3
              try clear hfz36_4
              try clear hfz42_0
              try clear hfz42_1
              try clear hfz42_2
              try clear hfz42_3
              try clear hfz42_4
              try clear p2
              try clear p6
              obtain ⟨kq, x108000_36, x108001_36, x108003_36, HA, HJ36, BK107, BK108, HB⟩ := hcut
              cases kq with
              | zero => exact absurd HA.out (by simp [spec_SoilStep.j2])
              | succ kj36 =>
                have H := HA.out
                clear HA
                simp only [spec_SoilStep.j2] at H
                obtain ⟨ji43, hji43⟩ : ∃ j_ : Int, (mx (wrap64 (x108001_36 - 100)) 0) = j_ := ⟨_, rfl⟩
                replace H : (some (x108000_36, wrap64 ((wrap64 (x108001_36 - (mn (wrap64 ((ji43) / 4)) (wrap64 (1500 - a0_2))))) - (mx (wrap64 ((wrap64 (x108001_36 - (mn (wrap64 ((ji43) / 4)) (wrap64 (1500 - a0_2))))) - 400)) 0)), wrap64 ((wrap64 (a0_2 + (mn (wrap64 ((ji43) / 4)) (wrap64 (1500 - a0_2))))) - (wrap64 (Int.tdiv (wrap64 (a0_2 + (mn (wrap64 ((ji43) / 4)) (wrap64 (1500 - a0_2))))) 50))), wrap64 ((wrap64 (x108003_36 + (mx (wrap64 ((wrap64 (x108001_36 - (mn (wrap64 ((ji43) / 4)) (wrap64 (1500 - a0_2))))) - 400)) 0))) + (wrap64 (Int.tdiv (wrap64 (a0_2 + (mn (wrap64 ((ji43) / 4)) (wrap64 (1500 - a0_2))))) 50))), (wrap64 (a0_4 + a2)), true)) = some (r1, r2, r3, r4, r5, r6) := by first | (rw [hji43] at H; exact H) | (simp only [hji43] at H ⊢; exact H)
                have hji43_ : (if (wrap64 (x108001_36 - 100)) < 0 then 0 else (wrap64 (x108001_36 - 100))) = ji43 := hji43
                obtain ⟨ji44, hji44⟩ : ∃ j_ : Int, (mn (wrap64 ((ji43) / 4)) (wrap64 (1500 - a0_2))) = j_ := ⟨_, rfl⟩
                replace H : (some (x108000_36, wrap64 ((wrap64 (x108001_36 - (ji44))) - (mx (wrap64 ((wrap64 (x108001_36 - (ji44))) - 400)) 0)), wrap64 ((wrap64 (a0_2 + (ji44))) - (wrap64 (Int.tdiv (wrap64 (a0_2 + (ji44))) 50))), wrap64 ((wrap64 (x108003_36 + (mx (wrap64 ((wrap64 (x108001_36 - (ji44))) - 400)) 0))) + (wrap64 (Int.tdiv (wrap64 (a0_2 + (ji44))) 50))), (wrap64 (a0_4 + a2)), true)) = some (r1, r2, r3, r4, r5, r6) := by first | (rw [hji44] at H; exact H) | (simp only [hji44] at H ⊢; exact H)
                have hji44_ : (if (wrap64 (1500 - a0_2)) < (wrap64 ((ji43) / 4)) then (wrap64 (1500 - a0_2)) else (wrap64 ((ji43) / 4))) = ji44 := hji44
                obtain ⟨ji45, hji45⟩ : ∃ j_ : Int, (mx (wrap64 ((wrap64 (x108001_36 - (ji44))) - 400)) 0) = j_ := ⟨_, rfl⟩
                replace H : (some (x108000_36, wrap64 ((wrap64 (x108001_36 - (ji44))) - (ji45)), wrap64 ((wrap64 (a0_2 + (ji44))) - (wrap64 (Int.tdiv (wrap64 (a0_2 + (ji44))) 50))), wrap64 ((wrap64 (x108003_36 + (ji45))) + (wrap64 (Int.tdiv (wrap64 (a0_2 + (ji44))) 50))), (wrap64 (a0_4 + a2)), true)) = some (r1, r2, r3, r4, r5, r6) := by first | (rw [hji45] at H; exact H) | (simp only [hji45] at H ⊢; exact H)
                have hji45_ : (if (wrap64 ((wrap64 (x108001_36 - (ji44))) - 400)) < 0 then 0 else (wrap64 ((wrap64 (x108001_36 - (ji44))) - 400))) = ji45 := hji45
                simp only [Option.some.injEq, Prod.mk.injEq] at H
                obtain ⟨rfl, rfl, rfl, rfl, rfl, rfl⟩ := H
                obtain ⟨ff, hff⟩ : ∃ j_ : Int, wrap64 (a0_4 + a2) = j_ := ⟨_, rfl⟩
                rw [hff] at BK107
                have HFF := Aside0.mk hff
                clear hff
                have hp43 : (0 : Int) ≤ ji43 := by rw [← hji43]; unfold mx; split <;> omega
                have hdv : Int.tdiv ji43 4 = ji43 / 4 := Int.tdiv_eq_ediv_of_nonneg hp43
                have HJ43 := Aside0.mk hji43
                have HJ44 := Aside0.mk hji44
                have HJ45 := Aside0.mk hji45
                have HK45 := Aside0.mk hji45_
                clear hji43 hji44 hji45 hji45_
                go_upto_region 14 with (fail)
                go_cut [10] (fun v wc => v = .int .i64 ji44 ∧ Aside0 (wc.heap[gb107]? = some (.cells #[.int .i64 x108000_36, .int .i64 x108001_36, .int .i64 a0_2, .int .i64 x108003_36, .int .i64 ff] 37 (0, 0))) ∧ Aside0 (wc.heap[gb108]? = some (.cells #[.int .i64 0, .int .i64 0, .int .i64 0, .int .i64 0, .int .i64 0] 37 (0, 0))) ∧ Aside0 (Below w.heap.size w wc))
                case first =>
                  have hnb60 := NB107_108.out
                  have hnc60 := NB108_107.out
                  have hcz60_0 : wc.cell? ⟨gb107, 0, none⟩ = some (.int .i64 x108000_36) := (blk_cell BK107.out 0).trans rfl
                  have hcz60_1 : wc.cell? ⟨gb107, 1, none⟩ = some (.int .i64 x108001_36) := (blk_cell BK107.out 1).trans rfl
                  have hcz60_2 : wc.cell? ⟨gb107, 2, none⟩ = some (.int .i64 a0_2) := (blk_cell BK107.out 2).trans rfl
                  have hcz60_3 : wc.cell? ⟨gb107, 3, none⟩ = some (.int .i64 x108003_36) := (blk_cell BK107.out 3).trans rfl
                  have hcz60_4 : wc.cell? ⟨gb107, 4, none⟩ = some (.int .i64 ff) := (blk_cell BK107.out 4).trans rfl
                  have hfz60_0 := blk_frozen BK107.out 0
                  have hfz60_1 := blk_frozen BK107.out 1
                  have hfz60_2 := blk_frozen BK107.out 2
                  have hfz60_3 := blk_frozen BK107.out 3
                  have hfz60_4 := blk_frozen BK107.out 4
                  go_wp2
                  go_meet
                  case rel => exact ⟨rfl, BK107, BK108, HB⟩
                case rest =>
                  clear hji43_ hji44_ hp43 hdv BK107 BK108 HB
                  obtain ⟨rfl, BK107, BK108, HB⟩ := hcut
                  have hji45_ := HK45.out
                  obtain ⟨t1, ht1⟩ : ∃ j_ : Int, wrap64 (x108001_36 - ji44) = j_ := ⟨_, rfl⟩
                  obtain ⟨d1, hd1⟩ : ∃ j_ : Int, wrap64 (a0_2 + ji44) = j_ := ⟨_, rfl⟩
                  rw [ht1] at hji45_
                  have HT1 := Aside0.mk ht1
                  have HD1 := Aside0.mk hd1
                  have hnb61 := NB107_108.out
                  have hnc61 := NB108_107.out
                  have hcz61_0 : wc.cell? ⟨gb107, 0, none⟩ = some (.int .i64 x108000_36) := (blk_cell BK107.out 0).trans rfl
                  have hcz61_1 : wc.cell? ⟨gb107, 1, none⟩ = some (.int .i64 x108001_36) := (blk_cell BK107.out 1).trans rfl
                  have hcz61_2 : wc.cell? ⟨gb107, 2, none⟩ = some (.int .i64 a0_2) := (blk_cell BK107.out 2).trans rfl
                  have hcz61_3 : wc.cell? ⟨gb107, 3, none⟩ = some (.int .i64 x108003_36) := (blk_cell BK107.out 3).trans rfl
                  have hcz61_4 : wc.cell? ⟨gb107, 4, none⟩ = some (.int .i64 ff) := (blk_cell BK107.out 4).trans rfl
                  have hfz61_0 := blk_frozen BK107.out 0
                  have hfz61_1 := blk_frozen BK107.out 1
                  have hfz61_2 := blk_frozen BK107.out 2
                  have hfz61_3 := blk_frozen BK107.out 3
                  have hfz61_4 := blk_frozen BK107.out 4
                  go_upto_region 17 with (fail)
                  go_cut [11] (fun v wc => v = .int .i64 ji45 ∧ Aside0 (wc.heap[gb107]? = some (.cells #[.int .i64 x108000_36, .int .i64 t1, .int .i64 d1, .int .i64 x108003_36, .int .i64 ff] 37 (0, 0))) ∧ Aside0 (wc.heap[gb108]? = some (.cells #[.int .i64 0, .int .i64 0, .int .i64 0, .int .i64 0, .int .i64 0] 37 (0, 0))) ∧ Aside0 (Below w.heap.size w wc))
                  case first =>
                    go_wp2
                    go_meet
                    case rel => exact ⟨rfl, ⟨by (with_reducible repeat (first | refine blk_drewN ?_ _ | refine blk_drew ?_ | refine blk_alloc ?_ _)); refine blk_put (cs := #[.int .i64 x108000_36, .int .i64 t1, .int .i64 a0_2, .int .i64 x108003_36, .int .i64 ff]) ?_ 2 _ rfl; (with_reducible repeat (first | refine blk_drewN ?_ _ | refine blk_drew ?_ | refine blk_alloc ?_ _)); refine blk_put (cs := #[.int .i64 x108000_36, .int .i64 x108001_36, .int .i64 a0_2, .int .i64 x108003_36, .int .i64 ff]) ?_ 1 _ rfl; (with_reducible repeat (first | refine blk_drewN ?_ _ | refine blk_drew ?_ | refine blk_alloc ?_ _)); exact BK107.out⟩, ⟨by (with_reducible repeat (first | refine blk_drewN ?_ _ | refine blk_drew ?_ | refine blk_alloc ?_ _)); refine blk_far ?_ NB108_107.out _; (with_reducible repeat (first | refine blk_drewN ?_ _ | refine blk_drew ?_ | refine blk_alloc ?_ _)); refine blk_far ?_ NB108_107.out _; (with_reducible repeat (first | refine blk_drewN ?_ _ | refine blk_drew ?_ | refine blk_alloc ?_ _)); exact BK108.out⟩, ⟨by repeat (first | (with_reducible first | exact HB.out | apply below_alloc | apply pw_below_drewN | apply below_drew1 | refine below_set ?_ GE107.out | refine below_set ?_ GE108.out) | exact HB.out)⟩⟩
                  case rest =>
                    clear hnb61 hnc61
                    clear hcz61_0 hfz61_0
                    clear hcz61_1 hfz61_1
                    clear hcz61_2 hfz61_2
                    clear hcz61_3 hfz61_3
                    clear hcz61_4 hfz61_4
                    clear hji45_ ht1 hd1 BK107 BK108 HB
                    obtain ⟨rfl, BK107, BK108, HB⟩ := hcut
                    obtain ⟨t2, ht2⟩ : ∃ j_ : Int, wrap64 (t1 - ji45) = j_ := ⟨_, rfl⟩
                    obtain ⟨lk, hlk⟩ : ∃ j_ : Int, wrap64 (Int.tdiv d1 50) = j_ := ⟨_, rfl⟩
                    have HT2 := Aside0.mk ht2
                    have HLK := Aside0.mk hlk
                    have hnb62 := NB107_108.out
                    have hnc62 := NB108_107.out
                    have hcz62_0 : wc.cell? ⟨gb107, 0, none⟩ = some (.int .i64 x108000_36) := (blk_cell BK107.out 0).trans rfl
                    have hcz62_1 : wc.cell? ⟨gb107, 1, none⟩ = some (.int .i64 t1) := (blk_cell BK107.out 1).trans rfl
                    have hcz62_2 : wc.cell? ⟨gb107, 2, none⟩ = some (.int .i64 d1) := (blk_cell BK107.out 2).trans rfl
                    have hcz62_3 : wc.cell? ⟨gb107, 3, none⟩ = some (.int .i64 x108003_36) := (blk_cell BK107.out 3).trans rfl
                    have hcz62_4 : wc.cell? ⟨gb107, 4, none⟩ = some (.int .i64 ff) := (blk_cell BK107.out 4).trans rfl
                    have hfz62_0 := blk_frozen BK107.out 0
                    have hfz62_1 := blk_frozen BK107.out 1
                    have hfz62_2 := blk_frozen BK107.out 2
                    have hfz62_3 := blk_frozen BK107.out 3
                    have hfz62_4 := blk_frozen BK107.out 4
                    go_upto_region 19 with (fail)
                    go_cut [12] (fun v wc => v = .int .i64 lk ∧ Aside0 (wc.heap[gb107]? = some (.cells #[.int .i64 x108000_36, .int .i64 t2, .int .i64 d1, .int .i64 x108003_36, .int .i64 ff] 37 (0, 0))) ∧ Aside0 (wc.heap[gb108]? = some (.cells #[.int .i64 0, .int .i64 0, .int .i64 0, .int .i64 0, .int .i64 0] 37 (0, 0))) ∧ Aside0 (Below w.heap.size w wc))
                    case first =>
                      go_wp2
                      go_meet
                      case rel => exact ⟨by first | rfl | rw [hlk], ⟨by (with_reducible repeat (first | refine blk_drewN ?_ _ | refine blk_drew ?_ | refine blk_alloc ?_ _)); refine blk_put (cs := #[.int .i64 x108000_36, .int .i64 t1, .int .i64 d1, .int .i64 x108003_36, .int .i64 ff]) ?_ 1 _ rfl; (with_reducible repeat (first | refine blk_drewN ?_ _ | refine blk_drew ?_ | refine blk_alloc ?_ _)); exact BK107.out⟩, ⟨by (with_reducible repeat (first | refine blk_drewN ?_ _ | refine blk_drew ?_ | refine blk_alloc ?_ _)); refine blk_far ?_ NB108_107.out _; (with_reducible repeat (first | refine blk_drewN ?_ _ | refine blk_drew ?_ | refine blk_alloc ?_ _)); exact BK108.out⟩, ⟨by repeat (first | (with_reducible first | exact HB.out | apply below_alloc | apply pw_below_drewN | apply below_drew1 | refine below_set ?_ GE107.out | refine below_set ?_ GE108.out) | exact HB.out)⟩⟩
                    case rest =>
                      clear hnb62 hnc62
                      clear hcz62_0 hfz62_0
                      clear hcz62_1 hfz62_1
                      clear hcz62_2 hfz62_2
                      clear hcz62_3 hfz62_3
                      clear hcz62_4 hfz62_4
                      clear ht2 hlk BK107 BK108 HB
                      obtain ⟨rfl, BK107, BK108, HB⟩ := hcut
                      obtain ⟨d2, hd2⟩ : ∃ j_ : Int, wrap64 (d1 - lk) = j_ := ⟨_, rfl⟩
                      obtain ⟨g2, hg2⟩ : ∃ j_ : Int, wrap64 (wrap64 (x108003_36 + ji45) + lk) = j_ := ⟨_, rfl⟩
                      have HD2 := Aside0.mk hd2
                      have HG2 := Aside0.mk hg2
                      have hnb63 := NB107_108.out
                      have hnc63 := NB108_107.out
                      have hcz63_0 : wc.cell? ⟨gb107, 0, none⟩ = some (.int .i64 x108000_36) := (blk_cell BK107.out 0).trans rfl
                      have hcz63_1 : wc.cell? ⟨gb107, 1, none⟩ = some (.int .i64 t2) := (blk_cell BK107.out 1).trans rfl
                      have hcz63_2 : wc.cell? ⟨gb107, 2, none⟩ = some (.int .i64 d1) := (blk_cell BK107.out 2).trans rfl
                      have hcz63_3 : wc.cell? ⟨gb107, 3, none⟩ = some (.int .i64 x108003_36) := (blk_cell BK107.out 3).trans rfl
                      have hcz63_4 : wc.cell? ⟨gb107, 4, none⟩ = some (.int .i64 ff) := (blk_cell BK107.out 4).trans rfl
                      have hfz63_0 := blk_frozen BK107.out 0
                      have hfz63_1 := blk_frozen BK107.out 1
                      have hfz63_2 := blk_frozen BK107.out 2
                      have hfz63_3 := blk_frozen BK107.out 3
                      have hfz63_4 := blk_frozen BK107.out 4
                      have hcy63_0 : wc.cell? ⟨gb108, 0, none⟩ = some (.int .i64 0) := (blk_cell BK108.out 0).trans rfl
                      have hcy63_1 : wc.cell? ⟨gb108, 1, none⟩ = some (.int .i64 0) := (blk_cell BK108.out 1).trans rfl
                      have hcy63_2 : wc.cell? ⟨gb108, 2, none⟩ = some (.int .i64 0) := (blk_cell BK108.out 2).trans rfl
                      have hcy63_3 : wc.cell? ⟨gb108, 3, none⟩ = some (.int .i64 0) := (blk_cell BK108.out 3).trans rfl
                      have hcy63_4 : wc.cell? ⟨gb108, 4, none⟩ = some (.int .i64 0) := (blk_cell BK108.out 4).trans rfl
                      have hfy63_0 := blk_frozen BK108.out 0
                      have hfy63_1 := blk_frozen BK108.out 1
                      have hfy63_2 := blk_frozen BK108.out 2
                      have hfy63_3 := blk_frozen BK108.out 3
                      have hfy63_4 := blk_frozen BK108.out 4
                      go_wp2
                      refine bodyPost_ret (results_ct rfl _ _ gb108 37 #[.int .i64 x108000_36, .int .i64 t2, .int .i64 d2, .int .i64 g2, .int .i64 ff] (0, 0) _ rfl (by (with_reducible repeat (first | refine blk_drewN ?_ _ | refine blk_drew ?_ | refine blk_alloc ?_ _)); refine blk_put (cs := #[.int .i64 x108000_36, .int .i64 t2, .int .i64 d2, .int .i64 g2, .int .i64 0]) ?_ 4 _ rfl; (with_reducible repeat (first | refine blk_drewN ?_ _ | refine blk_drew ?_ | refine blk_alloc ?_ _)); refine blk_put (cs := #[.int .i64 x108000_36, .int .i64 t2, .int .i64 d2, .int .i64 0, .int .i64 0]) ?_ 3 _ rfl; (with_reducible repeat (first | refine blk_drewN ?_ _ | refine blk_drew ?_ | refine blk_alloc ?_ _)); refine blk_put (cs := #[.int .i64 x108000_36, .int .i64 t2, .int .i64 0, .int .i64 0, .int .i64 0]) ?_ 2 _ rfl; (with_reducible repeat (first | refine blk_drewN ?_ _ | refine blk_drew ?_ | refine blk_alloc ?_ _)); refine blk_put (cs := #[.int .i64 x108000_36, .int .i64 0, .int .i64 0, .int .i64 0, .int .i64 0]) ?_ 1 _ rfl; (with_reducible repeat (first | refine blk_drewN ?_ _ | refine blk_drew ?_ | refine blk_alloc ?_ _)); refine blk_put (cs := #[.int .i64 0, .int .i64 0, .int .i64 0, .int .i64 0, .int .i64 0]) ?_ 0 _ rfl; (with_reducible repeat (first | refine blk_drewN ?_ _ | refine blk_drew ?_ | refine blk_alloc ?_ _)); refine blk_far ?_ NB108_107.out _; (with_reducible repeat (first | refine blk_drewN ?_ _ | refine blk_drew ?_ | refine blk_alloc ?_ _)); refine blk_far ?_ NB108_107.out _; (with_reducible repeat (first | refine blk_drewN ?_ _ | refine blk_drew ?_ | refine blk_alloc ?_ _)); exact BK108.out) Try.underlying37 rfl (by kernel_rfl)) rfl ?_
                      exact ⟨by cases HG2.out; cases HD2.out; cases HLK.out; cases HT2.out; cases HD1.out; cases HT1.out; cases HFF.out; rfl, by repeat (first | (with_reducible first | exact HB.out | apply below_alloc | apply pw_below_drewN | apply below_drew1 | refine below_set ?_ GE107.out | refine below_set ?_ GE108.out) | exact HB.out)⟩

/-! ### laws_toSoil: function 23 -/
def laws_toSoil.f (a0_0 : Int) (a0_1 : Int) (a0_2 : Int) (a0_3 : Int) (a0_4 : Int) : Option (Int × Int × Int × Int × Int) := some (a0_0, a0_1, a0_2, a0_3, a0_4)
set_option maxHeartbeats 8000000 in
set_option maxRecDepth 100000 in
theorem laws_toSoil.calls (a0_0 : Int) (a0_1 : Int) (a0_2 : Int) (a0_3 : Int) (a0_4 : Int) (r1 : Int) (r2 : Int) (r3 : Int) (r4 : Int) (r5 : Int) (w : World) (h : laws_toSoil.f a0_0 a0_1 a0_2 a0_3 a0_4 = some (r1, r2, r3, r4, r5)) :
    Calls Try.prog 23 #[.agg #[.int .i64 a0_0, .int .i64 a0_1, .int .i64 a0_2, .int .i64 a0_3, .int .i64 a0_4]] w fun e w' => e = .returned (.agg #[.int .i64 r1, .int .i64 r2, .int .i64 r3, .int .i64 r4, .int .i64 r5]) ∧ Below w.heap.size w w' := by
  have hu36 := Try.underlying36
  have hu37 := Try.underlying37
  have HB := Aside0.mk (Below.refl w.heap.size w)
  have H : (some (a0_0, a0_1, a0_2, a0_3, a0_4)) = some (r1, r2, r3, r4, r5) := h
  clear h
  simp only [Option.some.injEq, Prod.mk.injEq] at H
  obtain ⟨rfl, rfl, rfl, rfl, rfl⟩ := H
  go_enter Try.func23, Try.ntmps23
  go_wp2_with (first | ((with_reducible refine gate_dst (N := 1) rfl ?_); refine box_event ?hg (N := 1) ?hd (cs := #[.int .i64 a0_0, .int .i64 a0_1, .int .i64 a0_2, .int .i64 a0_3, .int .i64 a0_4]) (t := 36) ?hr ?_; (case hd => rfl); (case hg => rfl); (case hr => first | (go_simp; done) | (go_simp; rfl)); intro gb112 hg w2 hbox hb; have n0_ := Aside0.mk (below_step (by repeat (first | (with_reducible first | exact HB.out | apply below_alloc | apply pw_below_drewN | apply below_drew1) | exact HB.out)) hb); have n1_ := Aside0.mk (hbox); have n2_ := Aside0.mk ((by rw [hg]; exact (below_size (by repeat (first | (with_reducible first | exact HB.out | apply below_alloc | apply pw_below_drewN | apply below_drew1) | exact HB.out))) : w.heap.size ≤ gb112)); have n3_ := Aside0.mk ((by rw [hg]; exact (below_size (by repeat (first | (with_reducible first | exact HB.out | apply below_alloc | apply pw_below_drewN | apply below_drew1) | exact HB.out))) : w.heap.size ≤ gb112)); clear HB; have HB := n0_; have BK112 := n1_; have GW112 := n2_; have GE112 := n3_; clear n0_ n1_ n2_ n3_; clear hb hbox hg) | ((with_reducible refine gate_dst (N := 2) rfl ?_); refine box_event ?hg (N := 2) ?hd (cs := #[.int .i64 0, .int .i64 0, .int .i64 0, .int .i64 0, .int .i64 0]) (t := 37) ?hr ?_; (case hd => rfl); (case hg => rfl); (case hr => first | (go_simp; done) | (go_simp; rfl)); intro gb113 hg w3 hbox hb; have n0_ := Aside0.mk (blk_below (g := gb112) (o := .cells #[.int .i64 a0_0, .int .i64 a0_1, .int .i64 a0_2, .int .i64 a0_3, .int .i64 a0_4] 36 (0, 0)) (by (with_reducible repeat (first | refine blk_drewN ?_ _ | refine blk_drew ?_ | refine blk_alloc ?_ _)); exact BK112.out) hb); have n1_ := Aside0.mk (below_step (by repeat (first | (with_reducible first | exact HB.out | apply below_alloc | apply pw_below_drewN | apply below_drew1 | refine below_set ?_ GE112.out) | exact HB.out)) hb); have n2_ := Aside0.mk (hbox); have n3_ := Aside0.mk ((by rw [hg]; exact (below_size (by repeat (first | (with_reducible first | exact HB.out | apply below_alloc | apply pw_below_drewN | apply below_drew1 | refine below_set ?_ GE112.out) | exact HB.out))) : w.heap.size ≤ gb113)); have n4_ := Aside0.mk ((by rw [hg]; exact (below_size (by repeat (first | (with_reducible first | exact HB.out | apply below_alloc | apply pw_below_drewN | apply below_drew1 | refine below_set ?_ GE112.out) | exact HB.out))) : w.heap.size ≤ gb113)); have n5_ := Aside0.mk ((by rw [hg]; exact Nat.ne_of_lt (blk_lt (g := gb112) (o := .cells #[.int .i64 a0_0, .int .i64 a0_1, .int .i64 a0_2, .int .i64 a0_3, .int .i64 a0_4] 36 (0, 0)) (by (with_reducible repeat (first | refine blk_drewN ?_ _ | refine blk_drew ?_ | refine blk_alloc ?_ _)); exact BK112.out)) : gb112 ≠ gb113)); have n6_ := Aside0.mk ((by rw [hg]; exact Nat.ne_of_gt (blk_lt (g := gb112) (o := .cells #[.int .i64 a0_0, .int .i64 a0_1, .int .i64 a0_2, .int .i64 a0_3, .int .i64 a0_4] 36 (0, 0)) (by (with_reducible repeat (first | refine blk_drewN ?_ _ | refine blk_drew ?_ | refine blk_alloc ?_ _)); exact BK112.out)) : gb113 ≠ gb112)); clear BK112; clear HB; have BK112 := n0_; have HB := n1_; have BK113 := n2_; have GW113 := n3_; have GE113 := n4_; have NB112_113 := n5_; have NB113_112 := n6_; clear n0_ n1_ n2_ n3_ n4_ n5_ n6_; clear hb hbox hg) | ((with_reducible refine gate_dst (N := 3) rfl ?_); refine box_event ?hg (N := 3) ?hd (cs := #[.int .i64 0, .int .i64 0, .int .i64 0, .int .i64 0, .int .i64 0]) (t := 37) ?hr ?_; (case hd => rfl); (case hg => rfl); (case hr => first | (go_simp; done) | (go_simp; rfl)); intro gb114 hg w4 hbox hb; have n0_ := Aside0.mk (blk_below (g := gb112) (o := .cells #[.int .i64 a0_0, .int .i64 a0_1, .int .i64 a0_2, .int .i64 a0_3, .int .i64 a0_4] 36 (0, 0)) (by (with_reducible repeat (first | refine blk_drewN ?_ _ | refine blk_drew ?_ | refine blk_alloc ?_ _)); exact BK112.out) hb); have n1_ := Aside0.mk (blk_below (g := gb113) (o := .cells #[.int .i64 0, .int .i64 0, .int .i64 0, .int .i64 0, .int .i64 0] 37 (0, 0)) (by (with_reducible repeat (first | refine blk_drewN ?_ _ | refine blk_drew ?_ | refine blk_alloc ?_ _)); exact BK113.out) hb); have n2_ := Aside0.mk (below_step (by repeat (first | (with_reducible first | exact HB.out | apply below_alloc | apply pw_below_drewN | apply below_drew1 | refine below_set ?_ GE112.out | refine below_set ?_ GE113.out) | exact HB.out)) hb); have n3_ := Aside0.mk (hbox); have n4_ := Aside0.mk ((by rw [hg]; exact (below_size (by repeat (first | (with_reducible first | exact HB.out | apply below_alloc | apply pw_below_drewN | apply below_drew1 | refine below_set ?_ GE112.out | refine below_set ?_ GE113.out) | exact HB.out))) : w.heap.size ≤ gb114)); have n5_ := Aside0.mk ((by rw [hg]; exact (below_size (by repeat (first | (with_reducible first | exact HB.out | apply below_alloc | apply pw_below_drewN | apply below_drew1 | refine below_set ?_ GE112.out | refine below_set ?_ GE113.out) | exact HB.out))) : w.heap.size ≤ gb114)); have n6_ := Aside0.mk ((by rw [hg]; exact Nat.ne_of_lt (blk_lt (g := gb112) (o := .cells #[.int .i64 a0_0, .int .i64 a0_1, .int .i64 a0_2, .int .i64 a0_3, .int .i64 a0_4] 36 (0, 0)) (by (with_reducible repeat (first | refine blk_drewN ?_ _ | refine blk_drew ?_ | refine blk_alloc ?_ _)); exact BK112.out)) : gb112 ≠ gb114)); have n7_ := Aside0.mk ((by rw [hg]; exact Nat.ne_of_gt (blk_lt (g := gb112) (o := .cells #[.int .i64 a0_0, .int .i64 a0_1, .int .i64 a0_2, .int .i64 a0_3, .int .i64 a0_4] 36 (0, 0)) (by (with_reducible repeat (first | refine blk_drewN ?_ _ | refine blk_drew ?_ | refine blk_alloc ?_ _)); exact BK112.out)) : gb114 ≠ gb112)); have n8_ := Aside0.mk ((by rw [hg]; exact Nat.ne_of_lt (blk_lt (g := gb113) (o := .cells #[.int .i64 0, .int .i64 0, .int .i64 0, .int .i64 0, .int .i64 0] 37 (0, 0)) (by (with_reducible repeat (first | refine blk_drewN ?_ _ | refine blk_drew ?_ | refine blk_alloc ?_ _)); exact BK113.out)) : gb113 ≠ gb114)); have n9_ := Aside0.mk ((by rw [hg]; exact Nat.ne_of_gt (blk_lt (g := gb113) (o := .cells #[.int .i64 0, .int .i64 0, .int .i64 0, .int .i64 0, .int .i64 0] 37 (0, 0)) (by (with_reducible repeat (first | refine blk_drewN ?_ _ | refine blk_drew ?_ | refine blk_alloc ?_ _)); exact BK113.out)) : gb114 ≠ gb113)); clear BK112; clear BK113; clear HB; have BK112 := n0_; have BK113 := n1_; have HB := n2_; have BK114 := n3_; have GW114 := n4_; have GE114 := n5_; have NB112_114 := n6_; have NB114_112 := n7_; have NB113_114 := n8_; have NB114_113 := n9_; clear n0_ n1_ n2_ n3_ n4_ n5_ n6_ n7_ n8_ n9_; clear hb hbox hg; have hnb5 := NB112_113.out; have hnc5 := NB113_112.out; have hnb6 := NB112_114.out; have hnc6 := NB114_112.out; have hcz7_0 : w4.cell? ⟨gb112, 0, none⟩ = some (.int .i64 a0_0) := (blk_cell BK112.out 0).trans rfl; have hcz7_1 : w4.cell? ⟨gb112, 1, none⟩ = some (.int .i64 a0_1) := (blk_cell BK112.out 1).trans rfl; have hcz7_2 : w4.cell? ⟨gb112, 2, none⟩ = some (.int .i64 a0_2) := (blk_cell BK112.out 2).trans rfl; have hcz7_3 : w4.cell? ⟨gb112, 3, none⟩ = some (.int .i64 a0_3) := (blk_cell BK112.out 3).trans rfl; have hcz7_4 : w4.cell? ⟨gb112, 4, none⟩ = some (.int .i64 a0_4) := (blk_cell BK112.out 4).trans rfl; have hfz7_0 := blk_frozen BK112.out 0; have hfz7_1 := blk_frozen BK112.out 1; have hfz7_2 := blk_frozen BK112.out 2; have hfz7_3 := blk_frozen BK112.out 3; have hfz7_4 := blk_frozen BK112.out 4; have hnb8 := NB114_113.out; have hnc8 := NB113_114.out; have hcz9_0 : w4.cell? ⟨gb114, 0, none⟩ = some (.int .i64 0) := (blk_cell BK114.out 0).trans rfl; have hcz9_1 : w4.cell? ⟨gb114, 1, none⟩ = some (.int .i64 0) := (blk_cell BK114.out 1).trans rfl; have hcz9_2 : w4.cell? ⟨gb114, 2, none⟩ = some (.int .i64 0) := (blk_cell BK114.out 2).trans rfl; have hcz9_3 : w4.cell? ⟨gb114, 3, none⟩ = some (.int .i64 0) := (blk_cell BK114.out 3).trans rfl; have hcz9_4 : w4.cell? ⟨gb114, 4, none⟩ = some (.int .i64 0) := (blk_cell BK114.out 4).trans rfl; have hfz9_0 := blk_frozen BK114.out 0; have hfz9_1 := blk_frozen BK114.out 1; have hfz9_2 := blk_frozen BK114.out 2; have hfz9_3 := blk_frozen BK114.out 3; have hfz9_4 := blk_frozen BK114.out 4; have hcz10_0 : w4.cell? ⟨gb113, 0, none⟩ = some (.int .i64 0) := (blk_cell BK113.out 0).trans rfl; have hcz10_1 : w4.cell? ⟨gb113, 1, none⟩ = some (.int .i64 0) := (blk_cell BK113.out 1).trans rfl; have hcz10_2 : w4.cell? ⟨gb113, 2, none⟩ = some (.int .i64 0) := (blk_cell BK113.out 2).trans rfl; have hcz10_3 : w4.cell? ⟨gb113, 3, none⟩ = some (.int .i64 0) := (blk_cell BK113.out 3).trans rfl; have hcz10_4 : w4.cell? ⟨gb113, 4, none⟩ = some (.int .i64 0) := (blk_cell BK113.out 4).trans rfl; have hfz10_0 := blk_frozen BK113.out 0; have hfz10_1 := blk_frozen BK113.out 1; have hfz10_2 := blk_frozen BK113.out 2; have hfz10_3 := blk_frozen BK113.out 3; have hfz10_4 := blk_frozen BK113.out 4))
  refine bodyPost_ret (results_cell_row rfl _ _ gb113 37 #[.int .i64 a0_0, .int .i64 a0_1, .int .i64 a0_2, .int .i64 a0_3, .int .i64 a0_4] (0, 0) _ rfl (by (with_reducible repeat (first | refine blk_drewN ?_ _ | refine blk_drew ?_ | refine blk_alloc ?_ _)); refine blk_put (cs := #[.int .i64 a0_0, .int .i64 a0_1, .int .i64 a0_2, .int .i64 a0_3, .int .i64 0]) ?_ 4 _ rfl; (with_reducible repeat (first | refine blk_drewN ?_ _ | refine blk_drew ?_ | refine blk_alloc ?_ _)); refine blk_put (cs := #[.int .i64 a0_0, .int .i64 a0_1, .int .i64 a0_2, .int .i64 0, .int .i64 0]) ?_ 3 _ rfl; (with_reducible repeat (first | refine blk_drewN ?_ _ | refine blk_drew ?_ | refine blk_alloc ?_ _)); refine blk_put (cs := #[.int .i64 a0_0, .int .i64 a0_1, .int .i64 0, .int .i64 0, .int .i64 0]) ?_ 2 _ rfl; (with_reducible repeat (first | refine blk_drewN ?_ _ | refine blk_drew ?_ | refine blk_alloc ?_ _)); refine blk_put (cs := #[.int .i64 a0_0, .int .i64 0, .int .i64 0, .int .i64 0, .int .i64 0]) ?_ 1 _ rfl; (with_reducible repeat (first | refine blk_drewN ?_ _ | refine blk_drew ?_ | refine blk_alloc ?_ _)); refine blk_put (cs := #[.int .i64 0, .int .i64 0, .int .i64 0, .int .i64 0, .int .i64 0]) ?_ 0 _ rfl; (with_reducible repeat (first | refine blk_drewN ?_ _ | refine blk_drew ?_ | refine blk_alloc ?_ _)); refine blk_far ?_ NB113_114.out _; (with_reducible repeat (first | refine blk_drewN ?_ _ | refine blk_drew ?_ | refine blk_alloc ?_ _)); refine blk_far ?_ NB113_114.out _; (with_reducible repeat (first | refine blk_drewN ?_ _ | refine blk_drew ?_ | refine blk_alloc ?_ _)); refine blk_far ?_ NB113_114.out _; (with_reducible repeat (first | refine blk_drewN ?_ _ | refine blk_drew ?_ | refine blk_alloc ?_ _)); refine blk_far ?_ NB113_114.out _; (with_reducible repeat (first | refine blk_drewN ?_ _ | refine blk_drew ?_ | refine blk_alloc ?_ _)); refine blk_far ?_ NB113_114.out _; (with_reducible repeat (first | refine blk_drewN ?_ _ | refine blk_drew ?_ | refine blk_alloc ?_ _)); exact BK113.out) Try.underlying37 rfl (by kernel_rfl)) rfl ?_
  exact ⟨by first | rfl | (simp [errW_none, errW_some] <;> rfl) | (simp [*, errW_none, errW_some] <;> rfl), by repeat (first | (with_reducible first | exact HB.out | apply below_alloc | apply pw_below_drewN | apply below_drew1 | refine below_set ?_ GE112.out | refine below_set ?_ GE113.out | refine below_set ?_ GE114.out) | exact HB.out)⟩

/-! ### impl_in: function 51 -/
def impl_in.f (a0 : Int) (a1 : Int) (a2 : Int) : Option (Bool) := if a0 ≥ a1 then (some (decide (a0 ≤ a2))) else (some false)
set_option maxHeartbeats 8000000 in
set_option maxRecDepth 100000 in
theorem impl_in.calls (a0 : Int) (a1 : Int) (a2 : Int) (r : Bool) (w : World) (h : impl_in.f a0 a1 a2 = some r) :
    Calls Try.prog 51 #[.int .i64 a0, .int .i64 a1, .int .i64 a2] w fun e w' => e = .returned (.bool r) ∧ Drawn0 w w' := by
  have H : (if a0 ≥ a1 then (some (decide (a0 ≤ a2))) else (some false)) = some r := h
  clear h
  by_cases c4 : a0 ≥ a1
  · rw [if_pos c4] at H
    have c4b0 : decide (a1 ≤ a0) = true := decide_eq_true c4
    clear c4
    obtain rfl := Option.some.inj H
    go_enter Try.func51, Try.ntmps51
    go_wp2
    go_ret
    exact ⟨by first | rfl | (simp; done) | (simp [*]; done), by repeat (first | exact Drawn0.refl _ | apply Drawn0.step)⟩
  · rw [if_neg c4] at H
    have c4b0 : decide (a1 ≤ a0) = false := decide_eq_false c4
    clear c4
    obtain rfl := Option.some.inj H
    go_enter Try.func51, Try.ntmps51
    go_wp2
    go_ret
    exact ⟨by first | rfl | (simp; done) | (simp [*]; done), by repeat (first | exact Drawn0.refl _ | apply Drawn0.step)⟩

end Go.Proofs.Ytoghojneidpkkaa.PFnExactSoilStep
