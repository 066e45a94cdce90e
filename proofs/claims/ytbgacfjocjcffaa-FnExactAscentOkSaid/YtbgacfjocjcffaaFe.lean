/-
  Contracts of Between (both sides) and the law of Between.
  Conditions: none.
-/
import Derived.Test.YtbgacfjocjcffaaFv
import Derived.Test.YtbgacfjocjcffaaFp
import Derived.Deep.RegionHeld3
namespace Go.Proofs.Ytbgacfjocjcffaa.Fe
open Go Go.RowKit Go.Proofs.Ytbgacfjocjcffaa.Fk Go.Proofs.Ytbgacfjocjcffaa.Qs Go.Proofs.Ytbgacfjocjcffaa.Fw Go.Proofs.Ytbgacfjocjcffaa.Fc Go.Proofs.Ytbgacfjocjcffaa.Fv
attribute [local go_sem] Fv.run_store_float Fv.drewN_setCell Fv.drewN_alloc
set_option linter.unusedVariables false

abbrev lv (a : Int) (b : Nat) : Value := .agg #[.int .i64 a, .float .f64 b]
def inB (n : Int) : Bool := decide (-12000 ≤ n) && decide (n ≤ 12000)
theorem inB_le {n : Int} (h : inB n = true) : -12000 ≤ n ∧ n ≤ 12000 := by
  unfold inB at h
  rw [Bool.and_eq_true] at h
  exact ⟨of_decide_eq_true h.1, of_decide_eq_true h.2⟩
theorem specIn_any (n lo hi : Int) (w : World) : Calls Try.prog 70 #[.int .i64 n, .int .i64 lo, .int .i64 hi] w fun e w' => e = .returned (.bool (decide (lo ≤ n) && decide (n ≤ hi))) ∧ w = w' := by
  cases h : decide (lo ≤ n)
  · have h' : ¬ lo ≤ n := of_decide_eq_false h
    go_enter Try.func70, Try.ntmps70
    go_wp2
    go_ret
    simp
  · have h' : lo ≤ n := of_decide_eq_true h
    go_enter Try.func70, Try.ntmps70
    go_wp2
    go_ret
    simp
theorem implIn_any (n lo hi : Int) (w : World) : Calls Try.prog 72 #[.int .i64 n, .int .i64 lo, .int .i64 hi] w fun e w' => e = .returned (.bool (decide (lo ≤ n) && decide (n ≤ hi))) ∧ w = w' := by
  cases h : decide (lo ≤ n)
  · have h' : ¬ lo ≤ n := of_decide_eq_false h
    go_enter Try.func72, Try.ntmps72
    go_wp2
    go_ret
    simp
  · have h' : lo ≤ n := of_decide_eq_true h
    go_enter Try.func72, Try.ntmps72
    go_wp2
    go_ret
    simp
theorem lim_any (n : Int) (w : World) : Calls Try.prog 71 #[.int .i64 n] w fun e w' => e = .returned (.bool (inB n)) ∧ w = w' := by
  go_enter Try.func71, Try.ntmps71
  go_wp2_with (go_at_call 72; refine (implIn_any _ _ _ _).mono ?_; rintro e w' ⟨rfl, rfl⟩)
  go_ret
  exact ⟨rfl, rfl⟩
theorem toLevel_any (a : Int) (b : Nat) (w : World) : Calls Try.prog 34 #[lv a b] w fun e w' => e = .returned (lv a b) ∧ Below w.heap.size w w' := by
  go_enter Try.func34, Try.ntmps34
  go_wp2
  refine bodyPost_ret (results_cell_row rfl _ _ (w.heap.size + 1) 38 #[.int .i64 a, .float .f64 b] (0, 0) _ rfl (Fp.heap_alloc3_mid _ _ _ _) Try.underlying38 rfl (by kernel_rfl)) rfl ?_
  exact ⟨rfl, Joins.below_alloc3 _ _ _ _⟩
def mid (a c p : Int) : Bool := decide (a < p) == decide (p < c)
def val (a c p : Int) (b d : Nat) : Option Nat := fop .add (can b) (fop .mul (fop .sub (can d) (can b)) (fop .quo (can (floatOfInt .f64 (a - p))) (can (floatOfInt .f64 (a - c)))))
def btw (a c p : Int) (b d : Nat) : Option Nat := if p = a then can b else if p = c then can d else if inB a && inB c && inB p && inB (a - c) && mid a c p then val a c p b d else none
theorem btw_none {a c p : Int} {b d : Nat} (h1 : ¬ p = a) (h2 : ¬ p = c) (h : (inB a && inB c && inB p && inB (a - c) && mid a c p) = false) : btw a c p b d = none := by
  unfold btw; rw [if_neg h1, if_neg h2, h]; rfl
theorem btw_val {a c p : Int} {b d : Nat} (h1 : ¬ p = a) (h2 : ¬ p = c) (h : (inB a && inB c && inB p && inB (a - c) && mid a c p) = true) : btw a c p b d = val a c p b d := by
  unfold btw; rw [if_neg h1, if_neg h2, h]; rfl
theorem below2 (w : World) (A B : Obj) (n : Nat) : Below w.heap.size w (((w.alloc A).alloc B).drewN n) := draws (Joins.below_alloc2 _ _ _) _

set_option maxHeartbeats 8000000 in
theorem specBtw_any (a c p : Int) (b d : Nat) (w : World) : Calls Try.prog 33 #[lv a b, lv c d, .int .i64 p] w fun e w' => ∃ r, e = .returned (.float .f64 r) ∧ can r = btw a c p b d ∧ Below w.heap.size w w' := by
  by_cases h1 : p = a
  · subst h1
    go_enter Try.func33, Try.ntmps33
    go_wp2
    go_ret
    exact ⟨_, rfl, by unfold btw; rw [if_pos rfl], Joins.below_alloc2 _ _ _⟩
  by_cases h2 : p = c
  · subst h2
    go_enter Try.func33, Try.ntmps33
    go_wp2
    go_ret
    exact ⟨_, rfl, by unfold btw; rw [if_neg h1, if_pos rfl], Joins.below_alloc2 _ _ _⟩
  cases q1 : inB a
  · have hz : (inB a && inB c && inB p && inB (a - c) && mid a c p) = false := by simp [q1]
    have eq1 := q1
    unfold inB at eq1
    go_enter Try.func33, Try.ntmps33
    go_wp2_with (first | (go_at_call 70; refine (specIn_any _ _ _ _).mono ?_; rintro e w' ⟨rfl, rfl⟩) | (go_at_call 68; refine (l1None_any _).mono ?_; rintro e w' ⟨r, n, rfl, rfl, hr, hl⟩; have hr' := Lib.hid hr; clear hr))
    all_goals (go_ret; exact ⟨_, rfl, by rw [btw_none h1 h2 hz]; exact hr'.out, by first | exact below2 _ _ _ _ | exact Joins.below_alloc2 _ _ _⟩)
  cases q2 : inB c
  · have hz : (inB a && inB c && inB p && inB (a - c) && mid a c p) = false := by simp [q2]
    have eq1 := q1
    unfold inB at eq1
    have eq2 := q2
    unfold inB at eq2
    go_enter Try.func33, Try.ntmps33
    go_wp2_with (first | (go_at_call 70; refine (specIn_any _ _ _ _).mono ?_; rintro e w' ⟨rfl, rfl⟩) | (go_at_call 68; refine (l1None_any _).mono ?_; rintro e w' ⟨r, n, rfl, rfl, hr, hl⟩; have hr' := Lib.hid hr; clear hr))
    all_goals (go_ret; exact ⟨_, rfl, by rw [btw_none h1 h2 hz]; exact hr'.out, by first | exact below2 _ _ _ _ | exact Joins.below_alloc2 _ _ _⟩)
  cases q3 : inB p
  · have hz : (inB a && inB c && inB p && inB (a - c) && mid a c p) = false := by simp [q3]
    have eq1 := q1
    unfold inB at eq1
    have eq2 := q2
    unfold inB at eq2
    have eq3 := q3
    unfold inB at eq3
    go_enter Try.func33, Try.ntmps33
    go_wp2_with (first | (go_at_call 70; refine (specIn_any _ _ _ _).mono ?_; rintro e w' ⟨rfl, rfl⟩) | (go_at_call 68; refine (l1None_any _).mono ?_; rintro e w' ⟨r, n, rfl, rfl, hr, hl⟩; have hr' := Lib.hid hr; clear hr))
    all_goals (go_ret; exact ⟨_, rfl, by rw [btw_none h1 h2 hz]; exact hr'.out, by first | exact below2 _ _ _ _ | exact Joins.below_alloc2 _ _ _⟩)
  cases q4 : inB (a - c)
  · have hz : (inB a && inB c && inB p && inB (a - c) && mid a c p) = false := by simp [q4]
    have b1 := inB_le q1
    have b2 := inB_le q2
    have b3 := inB_le q3
    have eq1 := q1
    unfold inB at eq1
    have eq2 := q2
    unfold inB at eq2
    have eq3 := q3
    unfold inB at eq3
    have eq4 := q4
    unfold inB at eq4
    go_enter Try.func33, Try.ntmps33
    go_wp2_with (first | (go_at_call 70; refine (specIn_any _ _ _ _).mono ?_; rintro e w' ⟨rfl, rfl⟩) | (go_at_call 68; refine (l1None_any _).mono ?_; rintro e w' ⟨r, n, rfl, rfl, hr, hl⟩; have hr' := Lib.hid hr; clear hr))
    all_goals (go_ret; exact ⟨_, rfl, by rw [btw_none h1 h2 hz]; exact hr'.out, by first | exact below2 _ _ _ _ | exact Joins.below_alloc2 _ _ _⟩)
  have b1 := inB_le q1
  have b2 := inB_le q2
  have b3 := inB_le q3
  have eq1 := q1
  unfold inB at eq1
  have eq2 := q2
  unfold inB at eq2
  have eq3 := q3
  unfold inB at eq3
  have eq4 := q4
  unfold inB at eq4
  cases hm : mid a c p
  · have hz : (inB a && inB c && inB p && inB (a - c) && mid a c p) = false := by simp [hm]
    have em : (decide (a < p) == decide (p < c)) = false := hm
    have en : (!(decide (a < p) == decide (p < c))) = true := by rw [em]; rfl
    go_enter Try.func33, Try.ntmps33
    go_wp2_with (first | (go_at_call 70; refine (specIn_any _ _ _ _).mono ?_; rintro e w' ⟨rfl, rfl⟩) | (go_at_call 68; refine (l1None_any _).mono ?_; rintro e w' ⟨r, n, rfl, rfl, hr, hl⟩; have hr' := Lib.hid hr; clear hr))
    all_goals (go_ret; exact ⟨_, rfl, by rw [btw_none h1 h2 hz]; exact hr'.out, by first | exact below2 _ _ _ _ | exact Joins.below_alloc2 _ _ _⟩)
  · have hz : (inB a && inB c && inB p && inB (a - c) && mid a c p) = true := by simp [q1, q2, q3, q4, hm]
    have em : (decide (a < p) == decide (p < c)) = true := hm
    clear hm
    go_enter Try.func33, Try.ntmps33
    go_wp2_with (first | (go_at_call 70; refine (specIn_any _ _ _ _).mono ?_; rintro e w' ⟨rfl, rfl⟩) | (go_at_call 68; refine (l1None_any _).mono ?_; rintro e w' ⟨r, n, rfl, rfl, hr, hl⟩; have hr' := Lib.hid hr; clear hr) | (refine wpList_fop rfl rfl (by decide) rfl rfl ?_; intro r n hr hl; have hr' := Lib.hid hr; clear hr))
    rename_i rq nq lq hq rs ns ls hs rm nm lm hm
    go_ret
    exact ⟨_, rfl, by rw [btw_val h1 h2 hz, hr'.out, hm.out, hs.out, hq.out]; rfl, by first | exact below2 _ _ _ _ | exact Joins.below_alloc2 _ _ _⟩

set_option maxHeartbeats 8000000 in
theorem implBtw_any (a c p : Int) (b d : Nat) (w : World) : Calls Try.prog 35 #[lv a b, lv c d, .int .i64 p] w fun e w' => ∃ r, e = .returned (.float .f64 r) ∧ can r = btw a c p b d ∧ Below w.heap.size w w' := by
  by_cases h1 : p = a
  · subst h1
    go_enter Try.func35, Try.ntmps35
    go_wp2
    go_ret
    exact ⟨_, rfl, by unfold btw; rw [if_pos rfl], Joins.below_alloc2 _ _ _⟩
  by_cases h2 : p = c
  · subst h2
    go_enter Try.func35, Try.ntmps35
    go_wp2
    go_ret
    exact ⟨_, rfl, by unfold btw; rw [if_neg h1, if_pos rfl], Joins.below_alloc2 _ _ _⟩
  cases q1 : inB a
  · have hz : (inB a && inB c && inB p && inB (a - c) && mid a c p) = false := by simp [q1]
    go_enter Try.func35, Try.ntmps35
    go_wp2_with (first | (go_at_call 71; refine (lim_any _ _).mono ?_; rintro e w' ⟨rfl, rfl⟩) | (go_at_call 69; refine (nan_any _).mono ?_; rintro e w' ⟨rfl, rfl⟩))
    all_goals (go_ret; exact ⟨_, rfl, by rw [btw_none h1 h2 hz]; exact can_qnan, by first | exact below2 _ _ _ _ | exact Joins.below_alloc2 _ _ _⟩)
  cases q2 : inB c
  · have hz : (inB a && inB c && inB p && inB (a - c) && mid a c p) = false := by simp [q2]
    go_enter Try.func35, Try.ntmps35
    go_wp2_with (first | (go_at_call 71; refine (lim_any _ _).mono ?_; rintro e w' ⟨rfl, rfl⟩) | (go_at_call 69; refine (nan_any _).mono ?_; rintro e w' ⟨rfl, rfl⟩))
    all_goals (go_ret; exact ⟨_, rfl, by rw [btw_none h1 h2 hz]; exact can_qnan, by first | exact below2 _ _ _ _ | exact Joins.below_alloc2 _ _ _⟩)
  cases q3 : inB p
  · have hz : (inB a && inB c && inB p && inB (a - c) && mid a c p) = false := by simp [q3]
    go_enter Try.func35, Try.ntmps35
    go_wp2_with (first | (go_at_call 71; refine (lim_any _ _).mono ?_; rintro e w' ⟨rfl, rfl⟩) | (go_at_call 69; refine (nan_any _).mono ?_; rintro e w' ⟨rfl, rfl⟩))
    all_goals (go_ret; exact ⟨_, rfl, by rw [btw_none h1 h2 hz]; exact can_qnan, by first | exact below2 _ _ _ _ | exact Joins.below_alloc2 _ _ _⟩)
  cases q4 : inB (a - c)
  · have hz : (inB a && inB c && inB p && inB (a - c) && mid a c p) = false := by simp [q4]
    have b1 := inB_le q1
    have b2 := inB_le q2
    have b3 := inB_le q3
    go_enter Try.func35, Try.ntmps35
    go_wp2_with (first | (go_at_call 71; refine (lim_any _ _).mono ?_; rintro e w' ⟨rfl, rfl⟩) | (go_at_call 69; refine (nan_any _).mono ?_; rintro e w' ⟨rfl, rfl⟩))
    all_goals (go_ret; exact ⟨_, rfl, by rw [btw_none h1 h2 hz]; exact can_qnan, by first | exact below2 _ _ _ _ | exact Joins.below_alloc2 _ _ _⟩)
  have b1 := inB_le q1
  have b2 := inB_le q2
  have b3 := inB_le q3
  rcases (by omega : (a < p ∧ p < c) ∨ (c < p ∧ p < a) ∨ (p < a ∧ p < c) ∨ (a < p ∧ c < p)) with ⟨u, v⟩ | ⟨u, v⟩ | ⟨u, v⟩ | ⟨u, v⟩
  · have hm : mid a c p = true := by unfold mid; rw [decide_eq_true u, decide_eq_true v]; rfl
    have hz : (inB a && inB c && inB p && inB (a - c) && mid a c p) = true := by rw [q1, q2, q3, q4, hm]; rfl
    clear hm
    have hac : a < c := by omega
    go_enter Try.func35, Try.ntmps35
    go_wp2_with (first | (go_at_call 71; refine (lim_any _ _).mono ?_; rintro e w' ⟨rfl, rfl⟩) | (go_at_call 69; refine (nan_any _).mono ?_; rintro e w' ⟨rfl, rfl⟩) | (refine wpList_fop rfl rfl (by decide) rfl rfl ?_; intro r n hr hl; have hr' := Lib.hid hr; clear hr))
    rename_i rq nq lq hq rs ns ls hs rm nm lm hm
    go_ret
    exact ⟨_, rfl, by rw [btw_val h1 h2 hz, hr'.out, hm.out, hs.out, hq.out]; rfl, by first | exact below2 _ _ _ _ | exact Joins.below_alloc2 _ _ _⟩
  · have hm : mid a c p = true := by unfold mid; rw [decide_eq_false (show ¬ a < p by omega), decide_eq_false (show ¬ p < c by omega)]; rfl
    have hz : (inB a && inB c && inB p && inB (a - c) && mid a c p) = true := by rw [q1, q2, q3, q4, hm]; rfl
    clear hm
    have hac : c < a := by omega
    have hac2 : ¬ a < c := by omega
    go_enter Try.func35, Try.ntmps35
    go_wp2_with (first | (go_at_call 71; refine (lim_any _ _).mono ?_; rintro e w' ⟨rfl, rfl⟩) | (go_at_call 69; refine (nan_any _).mono ?_; rintro e w' ⟨rfl, rfl⟩) | (refine wpList_fop rfl rfl (by decide) rfl rfl ?_; intro r n hr hl; have hr' := Lib.hid hr; clear hr))
    rename_i rq nq lq hq rs ns ls hs rm nm lm hm
    go_ret
    exact ⟨_, rfl, by rw [btw_val h1 h2 hz, hr'.out, hm.out, hs.out, hq.out]; rfl, by first | exact below2 _ _ _ _ | exact Joins.below_alloc2 _ _ _⟩
  · have hm : mid a c p = false := by unfold mid; rw [decide_eq_false (show ¬ a < p by omega), decide_eq_true v]; rfl
    have hz : (inB a && inB c && inB p && inB (a - c) && mid a c p) = false := by rw [q1, q2, q3, q4, hm]; rfl
    clear hm
    go_enter Try.func35, Try.ntmps35
    go_wp2_with (first | (go_at_call 71; refine (lim_any _ _).mono ?_; rintro e w' ⟨rfl, rfl⟩) | (go_at_call 69; refine (nan_any _).mono ?_; rintro e w' ⟨rfl, rfl⟩))
    all_goals (go_ret; exact ⟨_, rfl, by rw [btw_none h1 h2 hz]; exact can_qnan, by first | exact below2 _ _ _ _ | exact Joins.below_alloc2 _ _ _⟩)
  · have hm : mid a c p = false := by unfold mid; rw [decide_eq_true u, decide_eq_false (show ¬ p < c by omega)]; rfl
    have hz : (inB a && inB c && inB p && inB (a - c) && mid a c p) = false := by rw [q1, q2, q3, q4, hm]; rfl
    clear hm
    go_enter Try.func35, Try.ntmps35
    go_wp2_with (first | (go_at_call 71; refine (lim_any _ _).mono ?_; rintro e w' ⟨rfl, rfl⟩) | (go_at_call 69; refine (nan_any _).mono ?_; rintro e w' ⟨rfl, rfl⟩))
    all_goals (go_ret; exact ⟨_, rfl, by rw [btw_none h1 h2 hz]; exact can_qnan, by first | exact below2 _ _ _ _ | exact Joins.below_alloc2 _ _ _⟩)

abbrev cel (a : Int) (b : Nat) (t : TypeId) : Obj := .cells #[.int .i64 a, .float .f64 b] t (0, 0)
theorem cel_cell {w : World} {g : Nat} {a : Int} {b : Nat} {t : TypeId} (h : w.heap[g]? = some (cel a b t)) (i : Nat) : w.cell? ⟨g, i, none⟩ = (#[Value.int .i64 a, Value.float .f64 b] : Array Value)[i]? := by
  simp [World.cell?, h]
theorem SS {w0 w : World} {a c : Int} {b d : Nat} (h0 : w.heap[w0.heap.size]? = some (cel a b 36)) (h1 : w.heap[w0.heap.size + 1]? = some (cel c d 36)) (hb : Below w0.heap.size w0 w) :
    w.heap[w0.heap.size]? = some (cel a b 36) ∧ w.heap[w0.heap.size + 1]? = some (cel c d 36) ∧ Below w0.heap.size w0 w ∧ w.cell? ⟨w0.heap.size, 0, none⟩ = some (.int .i64 a) ∧ w.cell? ⟨w0.heap.size, 1, none⟩ = some (.float .f64 b) ∧ w.cell? ⟨w0.heap.size + 1, 0, none⟩ = some (.int .i64 c) ∧ w.cell? ⟨w0.heap.size + 1, 1, none⟩ = some (.float .f64 d) := ⟨h0, h1, hb, cel_cell h0 0, cel_cell h0 1, cel_cell h1 0, cel_cell h1 1⟩
theorem row_alloc {w : World} {g : Nat} {o o' : Obj} (h : w.heap[g]? = some o) : (w.alloc o').heap[g]? = some o := by
  rw [Below.heap_alloc _ _ _ (Fp.row_lt h)]; exact h

set_option maxHeartbeats 8000000 in
theorem lawBtw (a c p : Int) (b d : Nat) (w : World) : Calls Try.prog 9 #[lv a b, lv c d, .int .i64 p] w fun e w' => e = .returned (.bool true) ∧ Below w.heap.size w w' := by
  go_enter Try.func9, Try.ntmps9
  go_wp2_with fail
  have H0 : ((w.alloc (cel a b 36)).alloc (cel c d 36)).heap[w.heap.size]? = some (cel a b 36) := row_alloc (heap_alloc_new _ _)
  have H1 : ((w.alloc (cel a b 36)).alloc (cel c d 36)).heap[w.heap.size + 1]? = some (cel c d 36) := heap_alloc2_new _ _ _
  have HB := Joins.below_alloc2 w (cel a b 36) (cel c d 36)
  obtain ⟨o1, o2, o3, h2, h3, h4, h5⟩ := SS H0 H1 HB
  generalize (w.alloc (Obj.cells #[Value.int IntKind.i64 a, Value.float FloatKind.f64 b] 36)).alloc (Obj.cells #[Value.int IntKind.i64 c, Value.float FloatKind.f64 d] 36) = w1 at *
  refine Code.wp_mono (Q := fun e a' w' => ∃ (r : Nat), e = .normal ∧ a' = { tmps := #[lv a b, lv c d, .int .i64 p, .pointer (some ⟨w.heap.size, 0, none⟩), .pointer (some ⟨w.heap.size + 1, 0, none⟩), undef, .bool false, .float .f64 r, undef, lv a b, lv a b, lv c d, lv c d, .int .i64 p, .float .f64 r, undef, undef, undef, undef, undef, undef, undef, undef, undef, undef], defers := [] } ∧ can r = btw a c p b d ∧ w'.heap[w.heap.size]? = some (cel a b 36) ∧ w'.heap[w.heap.size + 1]? = some (cel c d 36) ∧ Below w.heap.size w w') ?mono ?reg
  case reg =>
    go_region_held3 (fun v => v.heap[w.heap.size]? = some (cel a b 36) ∧ v.heap[w.heap.size + 1]? = some (cel c d 36) ∧ Below w.heap.size w v ∧ v.cell? ⟨w.heap.size, 0, none⟩ = some (.int .i64 a) ∧ v.cell? ⟨w.heap.size, 1, none⟩ = some (.float .f64 b) ∧ v.cell? ⟨w.heap.size + 1, 0, none⟩ = some (.int .i64 c) ∧ v.cell? ⟨w.heap.size + 1, 1, none⟩ = some (.float .f64 d)) (first | exact SS (by assumption) (by assumption) (by assumption) | exact SS (by assumption) (by assumption) (Below.drew (by assumption)) | go_keep) (first | (go_at_call 34; refine (toLevel_any _ _ _).mono ?_; rintro e w' ⟨rfl, hb⟩; have k0 := Fp.keep_row (g := w.heap.size) (o := cel a b 36) (by assumption) hb; have k1 := Fp.keep_row (g := w.heap.size + 1) (o := cel c d 36) (by assumption) hb; have kb : Below w.heap.size w w' := Fv.step (by first | assumption | exact Below.drew (by assumption)) hb; clear hb) | (go_at_call 33; refine (specBtw_any _ _ _ _ _ _).mono ?_; rintro e w' ⟨r, rfl, hx, hb⟩; have k0 := Fp.keep_row (g := w.heap.size) (o := cel a b 36) (by assumption) hb; have k1 := Fp.keep_row (g := w.heap.size + 1) (o := cel c d 36) (by assumption) hb; have kb : Below w.heap.size w w' := Fv.step (by first | assumption | exact Below.drew (by assumption)) hb; clear hb))
    all_goals exact ⟨_, rfl, rfl, hx, k0, k1, kb⟩
  case mono =>
    rename_i Q' K aK
    rintro e a' w2 ⟨r, rfl, rfl, hr, k0, k1, kb⟩
    refine aK _ _ ?_
    clear aK H0 H1 HB o1 o2 o3 h2 h3 h4 h5
    replace hr := Lib.hid hr
    go_wp2_with fail
    obtain ⟨o1, o2, o3, h2, h3, h4, h5⟩ := SS k0 k1 kb
    refine Code.wp_mono (Q := fun e a' w' => ∃ (s : Nat), e = .normal ∧ a' = { tmps := #[lv a b, lv c d, .int .i64 p, .pointer (some ⟨w.heap.size, 0, none⟩), .pointer (some ⟨w.heap.size + 1, 0, none⟩), undef, .bool false, .float .f64 r, .float .f64 s, lv a b, lv a b, lv c d, lv c d, .int .i64 p, .float .f64 r, lv a b, lv a b, lv c d, lv c d, .int .i64 p, .float .f64 s, undef, undef, undef, undef], defers := [] } ∧ can s = btw a c p b d ∧ Below w.heap.size w w') ?mono ?reg
    case reg =>
      go_region_held3 (fun v => v.heap[w.heap.size]? = some (cel a b 36) ∧ v.heap[w.heap.size + 1]? = some (cel c d 36) ∧ Below w.heap.size w v ∧ v.cell? ⟨w.heap.size, 0, none⟩ = some (.int .i64 a) ∧ v.cell? ⟨w.heap.size, 1, none⟩ = some (.float .f64 b) ∧ v.cell? ⟨w.heap.size + 1, 0, none⟩ = some (.int .i64 c) ∧ v.cell? ⟨w.heap.size + 1, 1, none⟩ = some (.float .f64 d)) (first | exact SS (by assumption) (by assumption) (by assumption) | exact SS (by assumption) (by assumption) (Below.drew (by assumption)) | go_keep) (first | (go_at_call 34; refine (toLevel_any _ _ _).mono ?_; rintro e w' ⟨rfl, hb⟩; have k0 := Fp.keep_row (g := w.heap.size) (o := cel a b 36) (by assumption) hb; have k1 := Fp.keep_row (g := w.heap.size + 1) (o := cel c d 36) (by assumption) hb; have kb : Below w.heap.size w w' := Fv.step (by first | assumption | exact Below.drew (by assumption)) hb; clear hb) | (go_at_call 35; refine (implBtw_any _ _ _ _ _ _).mono ?_; rintro e w' ⟨s, rfl, hx, hb⟩; have k0 := Fp.keep_row (g := w.heap.size) (o := cel a b 36) (by assumption) hb; have k1 := Fp.keep_row (g := w.heap.size + 1) (o := cel c d 36) (by assumption) hb; have kb : Below w.heap.size w w' := Fv.step (by first | assumption | exact Below.drew (by assumption)) hb; clear hb))
      all_goals exact ⟨_, rfl, rfl, hx, kb⟩
    case mono =>
      rename_i K2 aK
      rintro e a' w3 ⟨s, rfl, rfl, hx, kb'⟩
      refine aK _ _ ?_
      clear aK o1 o2 o3 h2 h3 h4 h5 k0 k1 kb
      have q1 := sfB_of (hx.trans hr.out.symm)
      have HB := Lib.hid kb'
      clear hx hr kb'
      go_wp2_with (go_at_call 32; refine (sameFloat_any _ _ _).mono ?_; rintro e w' ⟨rfl, n, rfl⟩)
      go_ret
      exact ⟨rfl, draws HB.out _⟩
end Go.Proofs.Ytbgacfjocjcffaa.Fe
