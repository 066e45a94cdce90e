/-
  Contracts of the units and of Convert (both sides); the law of Convert.
  Conditions: the table of units stands as laid.
-/
import Derived.Test.YtbgacfjocjcffabDoorFv
import Derived.Test.YtbgacfjocjcffabDoorFm
import Derived.Test.YtbgacfjocjcffabDoorDw
namespace Go.Proofs.YtbgacfjocjcffabDoor.Dc
open Go Go.RowKit Go.Proofs.YtbgacfjocjcffabDoor.Fk Go.Proofs.YtbgacfjocjcffabDoor.Qs Go.Proofs.YtbgacfjocjcffabDoor.Fw Go.Proofs.YtbgacfjocjcffabDoor.Fc Go.Proofs.YtbgacfjocjcffabDoor.Fp Go.Proofs.YtbgacfjocjcffabDoor.Fm
set_option linter.unusedVariables false
set_option linter.unusedSimpArgs false
attribute [local go_sem] Fp.run_store_float Fp.drewN_setCell Fp.drewN_alloc

def units : List (Int × Nat × Nat) := [(0, 0, 0), (1, 0, 4607182418800017408), (1, 4643512921809643110, 4607182418800017408), (1, 4646794216350647583, 4603179219131243634), (2, 0, 4607182418800017408), (2, 0, 4602808923161882060), (2, 0, 4598675619503873138), (3, 0, 4607182418800017408), (3, 0, 4629962737541415384), (3, 0, 4608683126282248314), (4, 0, 4607182418800017408), (4, 0, 4599162408583596029), (4, 0, 4655859997584916480), (5, 0, 4607182418800017408), (5, 0, 4627842682090579558)]
def un (u : Int) : Int × Nat × Nat := if 1 ≤ u ∧ u ≤ 14 then units.getD u.toNat (0, 0, 0) else (0, 0, 0)
abbrev ucel (p : Int × Nat × Nat) : Obj := .cells #[.int .i64 p.1, .float .f64 p.2.1, .float .f64 p.2.2] 56 (0, 0)
theorem unit1 (w : World) : Calls Tryd.prog 41 #[.int .i64 1] w fun e w' => e = .returned (.agg #[.int .i64 1, .float .f64 0, .float .f64 4607182418800017408]) ∧ w' = w.alloc (ucel (1, 0, 4607182418800017408)) := by
  go_enter Tryd.func41, Tryd.ntmps41
  go_wp2
  refine bodyPost_ret (results_cell_row rfl _ _ w.heap.size 56 #[.int .i64 1, .float .f64 0, .float .f64 4607182418800017408] (0, 0) _ rfl (heap_alloc_new _ _) Tryd.underlying56 rfl (by kernel_rfl)) rfl ?_
  exact ⟨rfl, rfl⟩
theorem unit2 (w : World) : Calls Tryd.prog 41 #[.int .i64 2] w fun e w' => e = .returned (.agg #[.int .i64 1, .float .f64 4643512921809643110, .float .f64 4607182418800017408]) ∧ w' = w.alloc (ucel (1, 4643512921809643110, 4607182418800017408)) := by
  go_enter Tryd.func41, Tryd.ntmps41
  go_wp2
  refine bodyPost_ret (results_cell_row rfl _ _ w.heap.size 56 #[.int .i64 1, .float .f64 4643512921809643110, .float .f64 4607182418800017408] (0, 0) _ rfl (heap_alloc_new _ _) Tryd.underlying56 rfl (by kernel_rfl)) rfl ?_
  exact ⟨rfl, rfl⟩
theorem unit3 (w : World) : Calls Tryd.prog 41 #[.int .i64 3] w fun e w' => e = .returned (.agg #[.int .i64 1, .float .f64 4646794216350647583, .float .f64 4603179219131243634]) ∧ w' = w.alloc (ucel (1, 4646794216350647583, 4603179219131243634)) := by
  go_enter Tryd.func41, Tryd.ntmps41
  go_wp2
  refine bodyPost_ret (results_cell_row rfl _ _ w.heap.size 56 #[.int .i64 1, .float .f64 4646794216350647583, .float .f64 4603179219131243634] (0, 0) _ rfl (heap_alloc_new _ _) Tryd.underlying56 rfl (by kernel_rfl)) rfl ?_
  exact ⟨rfl, rfl⟩
theorem unit4 (w : World) : Calls Tryd.prog 41 #[.int .i64 4] w fun e w' => e = .returned (.agg #[.int .i64 2, .float .f64 0, .float .f64 4607182418800017408]) ∧ w' = w.alloc (ucel (2, 0, 4607182418800017408)) := by
  go_enter Tryd.func41, Tryd.ntmps41
  go_wp2
  refine bodyPost_ret (results_cell_row rfl _ _ w.heap.size 56 #[.int .i64 2, .float .f64 0, .float .f64 4607182418800017408] (0, 0) _ rfl (heap_alloc_new _ _) Tryd.underlying56 rfl (by kernel_rfl)) rfl ?_
  exact ⟨rfl, rfl⟩
theorem unit5 (w : World) : Calls Tryd.prog 41 #[.int .i64 5] w fun e w' => e = .returned (.agg #[.int .i64 2, .float .f64 0, .float .f64 4602808923161882060]) ∧ w' = w.alloc (ucel (2, 0, 4602808923161882060)) := by
  go_enter Tryd.func41, Tryd.ntmps41
  go_wp2
  refine bodyPost_ret (results_cell_row rfl _ _ w.heap.size 56 #[.int .i64 2, .float .f64 0, .float .f64 4602808923161882060] (0, 0) _ rfl (heap_alloc_new _ _) Tryd.underlying56 rfl (by kernel_rfl)) rfl ?_
  exact ⟨rfl, rfl⟩
theorem unit6 (w : World) : Calls Tryd.prog 41 #[.int .i64 6] w fun e w' => e = .returned (.agg #[.int .i64 2, .float .f64 0, .float .f64 4598675619503873138]) ∧ w' = w.alloc (ucel (2, 0, 4598675619503873138)) := by
  go_enter Tryd.func41, Tryd.ntmps41
  go_wp2
  refine bodyPost_ret (results_cell_row rfl _ _ w.heap.size 56 #[.int .i64 2, .float .f64 0, .float .f64 4598675619503873138] (0, 0) _ rfl (heap_alloc_new _ _) Tryd.underlying56 rfl (by kernel_rfl)) rfl ?_
  exact ⟨rfl, rfl⟩
theorem unit7 (w : World) : Calls Tryd.prog 41 #[.int .i64 7] w fun e w' => e = .returned (.agg #[.int .i64 3, .float .f64 0, .float .f64 4607182418800017408]) ∧ w' = w.alloc (ucel (3, 0, 4607182418800017408)) := by
  go_enter Tryd.func41, Tryd.ntmps41
  go_wp2
  refine bodyPost_ret (results_cell_row rfl _ _ w.heap.size 56 #[.int .i64 3, .float .f64 0, .float .f64 4607182418800017408] (0, 0) _ rfl (heap_alloc_new _ _) Tryd.underlying56 rfl (by kernel_rfl)) rfl ?_
  exact ⟨rfl, rfl⟩
theorem unit8 (w : World) : Calls Tryd.prog 41 #[.int .i64 8] w fun e w' => e = .returned (.agg #[.int .i64 3, .float .f64 0, .float .f64 4629962737541415384]) ∧ w' = w.alloc (ucel (3, 0, 4629962737541415384)) := by
  go_enter Tryd.func41, Tryd.ntmps41
  go_wp2
  refine bodyPost_ret (results_cell_row rfl _ _ w.heap.size 56 #[.int .i64 3, .float .f64 0, .float .f64 4629962737541415384] (0, 0) _ rfl (heap_alloc_new _ _) Tryd.underlying56 rfl (by kernel_rfl)) rfl ?_
  exact ⟨rfl, rfl⟩
theorem unit9 (w : World) : Calls Tryd.prog 41 #[.int .i64 9] w fun e w' => e = .returned (.agg #[.int .i64 3, .float .f64 0, .float .f64 4608683126282248314]) ∧ w' = w.alloc (ucel (3, 0, 4608683126282248314)) := by
  go_enter Tryd.func41, Tryd.ntmps41
  go_wp2
  refine bodyPost_ret (results_cell_row rfl _ _ w.heap.size 56 #[.int .i64 3, .float .f64 0, .float .f64 4608683126282248314] (0, 0) _ rfl (heap_alloc_new _ _) Tryd.underlying56 rfl (by kernel_rfl)) rfl ?_
  exact ⟨rfl, rfl⟩
theorem unit10 (w : World) : Calls Tryd.prog 41 #[.int .i64 10] w fun e w' => e = .returned (.agg #[.int .i64 4, .float .f64 0, .float .f64 4607182418800017408]) ∧ w' = w.alloc (ucel (4, 0, 4607182418800017408)) := by
  go_enter Tryd.func41, Tryd.ntmps41
  go_wp2
  refine bodyPost_ret (results_cell_row rfl _ _ w.heap.size 56 #[.int .i64 4, .float .f64 0, .float .f64 4607182418800017408] (0, 0) _ rfl (heap_alloc_new _ _) Tryd.underlying56 rfl (by kernel_rfl)) rfl ?_
  exact ⟨rfl, rfl⟩
theorem unit11 (w : World) : Calls Tryd.prog 41 #[.int .i64 11] w fun e w' => e = .returned (.agg #[.int .i64 4, .float .f64 0, .float .f64 4599162408583596029]) ∧ w' = w.alloc (ucel (4, 0, 4599162408583596029)) := by
  go_enter Tryd.func41, Tryd.ntmps41
  go_wp2
  refine bodyPost_ret (results_cell_row rfl _ _ w.heap.size 56 #[.int .i64 4, .float .f64 0, .float .f64 4599162408583596029] (0, 0) _ rfl (heap_alloc_new _ _) Tryd.underlying56 rfl (by kernel_rfl)) rfl ?_
  exact ⟨rfl, rfl⟩
theorem unit12 (w : World) : Calls Tryd.prog 41 #[.int .i64 12] w fun e w' => e = .returned (.agg #[.int .i64 4, .float .f64 0, .float .f64 4655859997584916480]) ∧ w' = w.alloc (ucel (4, 0, 4655859997584916480)) := by
  go_enter Tryd.func41, Tryd.ntmps41
  go_wp2
  refine bodyPost_ret (results_cell_row rfl _ _ w.heap.size 56 #[.int .i64 4, .float .f64 0, .float .f64 4655859997584916480] (0, 0) _ rfl (heap_alloc_new _ _) Tryd.underlying56 rfl (by kernel_rfl)) rfl ?_
  exact ⟨rfl, rfl⟩
theorem unit13 (w : World) : Calls Tryd.prog 41 #[.int .i64 13] w fun e w' => e = .returned (.agg #[.int .i64 5, .float .f64 0, .float .f64 4607182418800017408]) ∧ w' = w.alloc (ucel (5, 0, 4607182418800017408)) := by
  go_enter Tryd.func41, Tryd.ntmps41
  go_wp2
  refine bodyPost_ret (results_cell_row rfl _ _ w.heap.size 56 #[.int .i64 5, .float .f64 0, .float .f64 4607182418800017408] (0, 0) _ rfl (heap_alloc_new _ _) Tryd.underlying56 rfl (by kernel_rfl)) rfl ?_
  exact ⟨rfl, rfl⟩
theorem unit14 (w : World) : Calls Tryd.prog 41 #[.int .i64 14] w fun e w' => e = .returned (.agg #[.int .i64 5, .float .f64 0, .float .f64 4627842682090579558]) ∧ w' = w.alloc (ucel (5, 0, 4627842682090579558)) := by
  go_enter Tryd.func41, Tryd.ntmps41
  go_wp2
  refine bodyPost_ret (results_cell_row rfl _ _ w.heap.size 56 #[.int .i64 5, .float .f64 0, .float .f64 4627842682090579558] (0, 0) _ rfl (heap_alloc_new _ _) Tryd.underlying56 rfl (by kernel_rfl)) rfl ?_
  exact ⟨rfl, rfl⟩
theorem unitN (u : Int) (h : ¬ (1 ≤ u ∧ u ≤ 14)) (w : World) : Calls Tryd.prog 41 #[.int .i64 u] w fun e w' => e = .returned (.agg #[.int .i64 0, .float .f64 0, .float .f64 0]) ∧ w' = w.alloc (ucel (0, 0, 0)) := by
  have n1 : (u == 1) = false := by simp; omega
  have n2 : (u == 2) = false := by simp; omega
  have n3 : (u == 3) = false := by simp; omega
  have n4 : (u == 4) = false := by simp; omega
  have n5 : (u == 5) = false := by simp; omega
  have n6 : (u == 6) = false := by simp; omega
  have n7 : (u == 7) = false := by simp; omega
  have n8 : (u == 8) = false := by simp; omega
  have n9 : (u == 9) = false := by simp; omega
  have n10 : (u == 10) = false := by simp; omega
  have n11 : (u == 11) = false := by simp; omega
  have n12 : (u == 12) = false := by simp; omega
  have n13 : (u == 13) = false := by simp; omega
  have n14 : (u == 14) = false := by simp; omega
  clear h
  go_enter Tryd.func41, Tryd.ntmps41
  go_wp2
  refine bodyPost_ret (results_cell_row rfl _ _ w.heap.size 56 #[.int .i64 0, .float .f64 0, .float .f64 0] (0, 0) _ rfl (heap_alloc_new _ _) Tryd.underlying56 rfl (by kernel_rfl)) rfl ?_
  exact ⟨rfl, rfl⟩
theorem unit_any (u : Int) (w : World) : Calls Tryd.prog 41 #[.int .i64 u] w fun e w' => e = .returned (.agg #[.int .i64 (un u).1, .float .f64 (un u).2.1, .float .f64 (un u).2.2]) ∧ w' = w.alloc (ucel (un u)) := by
  by_cases h : 1 ≤ u ∧ u ≤ 14
  · have : u = 1 ∨ u = 2 ∨ u = 3 ∨ u = 4 ∨ u = 5 ∨ u = 6 ∨ u = 7 ∨ u = 8 ∨ u = 9 ∨ u = 10 ∨ u = 11 ∨ u = 12 ∨ u = 13 ∨ u = 14 := by omega
    rcases this with rfl | rfl | rfl | rfl | rfl | rfl | rfl | rfl | rfl | rfl | rfl | rfl | rfl | rfl
    · exact unit1 w
    · exact unit2 w
    · exact unit3 w
    · exact unit4 w
    · exact unit5 w
    · exact unit6 w
    · exact unit7 w
    · exact unit8 w
    · exact unit9 w
    · exact unit10 w
    · exact unit11 w
    · exact unit12 w
    · exact unit13 w
    · exact unit14 w
  · have e : un u = (0, 0, 0) := by unfold un; rw [if_neg h]
    rw [e]
    exact unitN u h w

def inU (u : Int) : Bool := decide (1 ≤ u) && decide (u ≤ 14)
def cvB (f t : Int) : Bool := !((un f).1 == 0) && ((un f).1 == (un t).1)
def cvF (x : Nat) (f t : Int) : Option Nat := if cvB f t then (if nan x || f == t then can x else fop .sub (fop .quo (fop .mul (fop .add (can x) (can (un f).2.1)) (can (un f).2.2)) (can (un t).2.2)) (can (un t).2.1)) else none
theorem un_in {u : Int} : inU u = !((un u).1 == 0) := by
  unfold inU
  by_cases h : 1 ≤ u ∧ u ≤ 14
  · rw [decide_eq_true h.1, decide_eq_true h.2]
    have : u = 1 ∨ u = 2 ∨ u = 3 ∨ u = 4 ∨ u = 5 ∨ u = 6 ∨ u = 7 ∨ u = 8 ∨ u = 9 ∨ u = 10 ∨ u = 11 ∨ u = 12 ∨ u = 13 ∨ u = 14 := by omega
    rcases this with rfl | rfl | rfl | rfl | rfl | rfl | rfl | rfl | rfl | rfl | rfl | rfl | rfl | rfl <;> rfl
  · have e : un u = (0, 0, 0) := by unfold un; rw [if_neg h]
    rw [e]
    by_cases h1 : 1 ≤ u
    · rw [decide_eq_false (p := u ≤ 14) (by omega), Bool.and_false]; rfl
    · rw [decide_eq_false (p := 1 ≤ u) h1, Bool.false_and]; rfl

theorem inU_of (u : Int) (b : Bool) (h : (decide (1 ≤ u) && decide (u ≤ 14)) = b) (w : World) : Calls Tryd.prog 40 #[.int .i64 u, .int .i64 1, .int .i64 14] w fun e w' => e = .returned (.bool b) ∧ w = w' := by subst h; exact Dw.implIn_any u 1 14 w

set_option maxHeartbeats 4000000 in
theorem specConv_any (x : Nat) (hx : x < 18446744073709551616) (f t : Int) (w : World) : Calls Tryd.prog 21 #[.float .f64 x, .int .i64 f, .int .i64 t] w fun e w' => ∃ r, e = .returned (.tuple #[.float .f64 r, .bool (cvB f t)]) ∧ can r = cvF x f t ∧ Below w.heap.size w w' := by
  have U1 := unit_any
  have hne := self_ne x
  unfold cvB cvF cvB
  generalize un = un at U1 ⊢
  replace U1 := Lib.hid U1
  cases h1 : ((un f).1 == 0) <;> cases h2 : ((un f).1 == (un t).1) <;> cases h3 : nan x <;> cases h4 : (f == t)
  all_goals
    rw [h3] at hne
    have h2' : ((un f).1 != (un t).1) = !((un f).1 == (un t).1) := rfl
    rw [h2] at h2'
    simp only [Bool.not_true, Bool.not_false] at h2'
    go_enter Tryd.func21, Tryd.ntmps21
    go_wp2_with (first
      | (go_at_call 41; refine (U1.out _ _).mono ?_; rintro e w1 ⟨rfl, rfl⟩)
      | (go_at_call 31; refine (Fv.l1None_any _).mono ?_; rintro e w' ⟨r, n, rfl, rfl, hr, hl⟩; have hr' := Lib.hid hr; clear hr hl)
      | (refine wpList_fop rfl rfl (by decide) rfl rfl ?_; intro r n hr hl; have hr' := Lib.hid hr; clear hr hl))
    go_ret2
    first
      | exact ⟨_, rfl, hr'.out, by repeat (first | exact Below.refl _ _ | apply balloc | apply draws)⟩
      | exact ⟨_, rfl, by simp, by repeat (first | exact Below.refl _ _ | apply balloc | apply draws)⟩
      | (rename_i r0 n0 hr0 r1 n1 hr1 r2 n2 hr2; exact ⟨_, rfl, by rw [hr'.out, hr2.out, hr1.out, hr0.out] <;> simp, by repeat (first | exact Below.refl _ _ | apply balloc | apply draws)⟩)

def Units (w : World) : Prop := ∀ i : Int, 0 ≤ i → i < 15 → w.cell? ⟨1, i.toNat * 3, none⟩ = some (.int .i64 (un i).1) ∧ w.cell? ⟨1, i.toNat * 3 + 1, none⟩ = some (.float .f64 (un i).2.1) ∧ w.cell? ⟨1, i.toNat * 3 + 2, none⟩ = some (.float .f64 (un i).2.2)

theorem Units.below {w w' : World} (h : Units w) (hb : Below w.heap.size w w') : Units w' := fun i h0 h1 =>
  ⟨(hb.cell (World.block_lt_of_cell? w _ (h i h0 h1).1)).trans (h i h0 h1).1, (hb.cell (World.block_lt_of_cell? w _ (h i h0 h1).2.1)).trans (h i h0 h1).2.1, (hb.cell (World.block_lt_of_cell? w _ (h i h0 h1).2.2)).trans (h i h0 h1).2.2⟩
theorem keepU {w0 w : World} {p0 p1 p2 q0 q1 q2 : Addr} {a b c d e f : Value} (hb : Below w0.heap.size w0 w) (h0 : w0.cell? p0 = some a) (h1 : w0.cell? p1 = some b) (h2 : w0.cell? p2 = some c) (h3 : w0.cell? q0 = some d) (h4 : w0.cell? q1 = some e) (h5 : w0.cell? q2 = some f) : Below w0.heap.size w0 w ∧ w.cell? p0 = some a ∧ w.cell? p1 = some b ∧ w.cell? p2 = some c ∧ w.cell? q0 = some d ∧ w.cell? q1 = some e ∧ w.cell? q2 = some f :=
  ⟨hb, (hb.cell (World.block_lt_of_cell? w0 _ h0)).trans h0, (hb.cell (World.block_lt_of_cell? w0 _ h1)).trans h1, (hb.cell (World.block_lt_of_cell? w0 _ h2)).trans h2, (hb.cell (World.block_lt_of_cell? w0 _ h3)).trans h3, (hb.cell (World.block_lt_of_cell? w0 _ h4)).trans h4, (hb.cell (World.block_lt_of_cell? w0 _ h5)).trans h5⟩

set_option maxHeartbeats 8000000 in
theorem implConv_any (x : Nat) (f t : Int) (w : World) (hU : Units w) : Calls Tryd.prog 22 #[.float .f64 x, .int .i64 f, .int .i64 t] w fun e w' => ∃ r, e = .returned (.tuple #[.float .f64 r, .bool (cvB f t)]) ∧ can r = cvF x f t ∧ Below w.heap.size w w' := by
  have hne := self_ne x
  have hf := @un_in f
  have ht := @un_in t
  unfold inU at hf ht
  unfold cvF cvB
  have hu59 := Tryd.underlying59
  have hu60 := Tryd.underlying60
  cases hA : (decide (1 ≤ f) && decide (f ≤ 14))
  · rw [hA] at hf
    rw [← hf]
    clear ht hU
    clear hf
    go_enter Tryd.func22, Tryd.ntmps22
    go_wp2
    go_quiet (first | (go_at_call 40; refine Calls.quiet_of_same ((Dw.implIn_any _ _ _ _).mono (fun _ _ h => ⟨h.1, h.2.symm⟩))))
    go_wp2_with (first | (go_at_call 33; refine (Fv.nan_any _).mono ?_; rintro e w' ⟨rfl, rfl⟩))
    go_ret2
    exact ⟨_, rfl, by rw [Fv.can_qnan]; first | done | rfl | simp, by repeat (first | exact Below.refl _ _ | apply balloc | apply draws)⟩
  · cases hB : (decide (1 ≤ t) && decide (t ≤ 14))
    · rw [hB] at ht
      have e1 : ((un f).1 == (un t).1) = false := by
        rw [hA] at hf
        have h1 : ((un f).1 == 0) = false := by simpa using hf.symm
        have h2 : ((un t).1 == 0) = true := by simpa using ht.symm
        have h3 := eq_of_beq h2
        rw [h3]
        exact h1
      rw [e1, Bool.and_false]
      clear hf ht e1 hU
      go_enter Tryd.func22, Tryd.ntmps22
      go_wp2
      go_quiet (first | (go_at_call 40; refine Calls.quiet_of_same ((Dw.implIn_any _ _ _ _).mono (fun _ _ h => ⟨h.1, h.2.symm⟩))))
      go_wp2_with (first | (go_at_call 33; refine (Fv.nan_any _).mono ?_; rintro e w' ⟨rfl, rfl⟩))
      go_ret2
      exact ⟨_, rfl, by rw [Fv.can_qnan]; first | done | rfl | simp, by repeat (first | exact Below.refl _ _ | apply balloc | apply draws)⟩
    · rw [hA] at hf
      rw [← hf, Bool.true_and]
      have hf1 : 1 ≤ f ∧ f ≤ 14 := by simpa using hA
      have ht1 : 1 ≤ t ∧ t ≤ 14 := by simpa using hB
      obtain ⟨a1, a2, a3⟩ := hU f (by omega) (by omega)
      obtain ⟨b1, b2, b3⟩ := hU t (by omega) (by omega)
      have l1 : 1 < w.heap.size := World.block_lt_of_cell? w _ a1
      have p0 : 0 ≤ f := by omega
      have p1 : f < 15 := by omega
      have p2 : 0 ≤ t := by omega
      have p3 : t < 15 := by omega
      clear hf ht hf1 ht1 hU
      generalize un f = a at a1 a2 a3 ⊢
      generalize un t = b at b1 b2 b3 ⊢
      obtain ⟨ak, ao, af⟩ := a
      obtain ⟨bk, bo, bf⟩ := b
      dsimp only at a1 a2 a3 b1 b2 b3 ⊢
      cases h2 : (ak == bk) <;> cases h3 : nan x <;> cases h4 : (f == t)
      all_goals
        rw [h3] at hne
        have h2' : (ak != bk) = !(ak == bk) := rfl
        rw [h2] at h2'
        simp only [Bool.not_true, Bool.not_false] at h2'
        go_enter Tryd.func22, Tryd.ntmps22
        go_wp2
        go_quiet (first | (go_at_call 40; refine Calls.quiet_of_same ((Dw.implIn_any _ _ _ _).mono (fun _ _ h => ⟨h.1, h.2.symm⟩))))
        go_wp2_with (first
          | (go_at_call 33; refine (Fv.nan_any _).mono ?_; rintro e w' ⟨rfl, rfl⟩)
          | (go_at_call 42; refine (missing_any _ _).mono ?_; rintro e w' ⟨rfl, rfl⟩)
          | (refine wpList_fop rfl rfl (by decide) rfl rfl ?_; intro r n hr hl; have hr' := Lib.hid hr; clear hr hl))
        try (go_ret2; first | exact ⟨_, rfl, by rw [can_nan h3, Fv.can_qnan]; (first | done | rfl | (simp; done)), by repeat (first | exact Below.refl _ _ | apply balloc | apply draws)⟩ | exact ⟨_, rfl, by rw [can_nan h3, Fv.can_qnan], by repeat (first | exact Below.refl _ _ | apply balloc | apply draws)⟩ | exact ⟨_, rfl, by rw [Fv.can_qnan]; (first | done | rfl | (simp; done)), by repeat (first | exact Below.refl _ _ | apply balloc | apply draws)⟩ | exact ⟨_, rfl, by rw [Fv.can_qnan], by repeat (first | exact Below.refl _ _ | apply balloc | apply draws)⟩ | exact ⟨_, rfl, by first | rfl | (simp; done), by repeat (first | exact Below.refl _ _ | apply balloc | apply draws)⟩)
      obtain ⟨o0, o1, o2, o3, o4, o5, o6⟩ := keepU (draws (Below.refl w.heap.size w) nq) a1 a2 a3 b1 b2 b3
      replace a1 := Lib.hid a1
      replace a2 := Lib.hid a2
      replace a3 := Lib.hid a3
      replace b1 := Lib.hid b1
      replace b2 := Lib.hid b2
      replace b3 := Lib.hid b3
      go_region_held3 (fun v => Below w.heap.size w v ∧ v.cell? ⟨1, f.toNat * 3, none⟩ = some (.int .i64 ak) ∧ v.cell? ⟨1, f.toNat * 3 + 1, none⟩ = some (.float .f64 ao) ∧ v.cell? ⟨1, f.toNat * 3 + 2, none⟩ = some (.float .f64 af) ∧ v.cell? ⟨1, t.toNat * 3, none⟩ = some (.int .i64 bk) ∧ v.cell? ⟨1, t.toNat * 3 + 1, none⟩ = some (.float .f64 bo) ∧ v.cell? ⟨1, t.toNat * 3 + 2, none⟩ = some (.float .f64 bf)) (first | exact keepU (by repeat (first | exact Below.refl _ _ | apply balloc | apply draws)) a1.out a2.out a3.out b1.out b2.out b3.out | exact keepU (by assumption) a1.out a2.out a3.out b1.out b2.out b3.out | exact keepU (Below.drew (by assumption)) a1.out a2.out a3.out b1.out b2.out b3.out | exact keepU (balloc (by assumption) _) a1.out a2.out a3.out b1.out b2.out b3.out | exact keepU (Below.drew (balloc (by assumption) _)) a1.out a2.out a3.out b1.out b2.out b3.out | go_keep) (fail)
      clear o0 o1 o2 o3 o4 o5 o6
      go_wp2_with (refine wpList_fop rfl rfl (by decide) rfl rfl ?_; intro r n hr hl; have hr' := Lib.hid hr; clear hr hl)
      all_goals
        go_ret2
        refine ⟨_, rfl, hr'.out.trans ?_, by repeat (first | exact Below.refl _ _ | apply balloc | apply draws)⟩
        (first | (rename_i r0 n0 hr0 r1 n1 hr1 r2 n2 hr2 z; rw [hr2.out, hr1.out, hr0.out]; done) | (rename_i r0 n0 hr0 r1 n1 hr1 r2 n2 hr2; rw [hr2.out, hr1.out, hr0.out]; done))

set_option maxHeartbeats 4000000 in
theorem law (x : Nat) (hx : x < 18446744073709551616) (f t : Int) (w : World) (hU : Units w) : Calls Tryd.prog 7 #[.float .f64 x, .int .i64 f, .int .i64 t] w fun e w' => e = .returned (.bool true) ∧ Below w.heap.size w w' := by
  have HU := Lib.hid hU
  have S1 := specConv_any x hx f t
  have S2 := implConv_any x f t
  generalize cvB f t = b at S1 S2
  generalize cvF x f t = c at S1 S2
  replace S1 := Lib.hid S1
  replace S2 := Lib.hid S2
  clear hU hx
  go_enter Tryd.func7, Tryd.ntmps7
  go_wp2_with (first
    | (go_at_call 21; refine (S1.out _).mono ?_; rintro e w1 ⟨r, rfl, hr, hb⟩; have HB := Lib.hid hb; have Hr := Lib.hid hr; clear hb hr)
    | (go_at_call 22; refine (S2.out _ ?hs).mono ?_; (case hs => exact HU.out.below HB.out); rintro e w2 ⟨q, rfl, hr, hb⟩; replace HB := Lib.hid (Fp.step HB.out hb); have q1 := sfB_of (hr.trans Hr.out.symm); clear hb hr)
    | (go_at_call 23; refine (sameFloat_any _ _ _).mono ?_; rintro e w' ⟨rfl, n, rfl⟩))
  go_ret
  exact ⟨rfl, draws HB.out _⟩
end Go.Proofs.YtbgacfjocjcffabDoor.Dc
