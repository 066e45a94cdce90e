/-
  Contracts of the wind's test and of WindPair (both sides); the law of WindPair.
  Conditions: the table of sines stands as laid; the speed's bits lie under 2^64.
-/
import Derived.Test.YtbgacfjocjcffabDoorDu
import Derived.Test.YtbgacfjocjcffabDoorFv
namespace Go.Proofs.YtbgacfjocjcffabDoor.Dw
open Go Go.RowKit Go.Proofs.YtbgacfjocjcffabDoor.Fk Go.Proofs.YtbgacfjocjcffabDoor.Qs Go.Proofs.YtbgacfjocjcffabDoor.Fw Go.Proofs.YtbgacfjocjcffabDoor.Fc Go.Proofs.YtbgacfjocjcffabDoor.Fp Go.Proofs.YtbgacfjocjcffabDoor.Fm Go.Proofs.YtbgacfjocjcffabDoor.Dk Go.Proofs.YtbgacfjocjcffabDoor.Dt Go.Proofs.YtbgacfjocjcffabDoor.Du
attribute [local go_sem] Fp.run_store_float Fp.drewN_setCell Fp.drewN_alloc

abbrev wd (k : Int) (s : Nat) : Value := .agg #[.int .i64 k, .float .f64 s]
abbrev wcel (k : Int) (s : Nat) (t : TypeId) : Obj := .cells #[.int .i64 k, .float .f64 s] t (0, 0)
def wkB (k : Int) (s : Nat) : Bool := (decide (0 ≤ k) && decide (k ≤ 36)) && kn s && (FloatKind.f64.format.order s 0 == some .gt || FloatKind.f64.format.order s 0 == some .eq) && ((FloatKind.f64.format.order s 0 == some .eq) == (k == 0))

theorem specIn_any (n lo hi : Int) (w : World) : Calls Tryd.prog 37 #[.int .i64 n, .int .i64 lo, .int .i64 hi] w fun e w' => e = .returned (.bool (decide (lo ≤ n) && decide (n ≤ hi))) ∧ w = w' := by
  cases h1 : decide (lo ≤ n) <;> cases h2 : decide (n ≤ hi)
  all_goals
    go_enter Tryd.func37, Tryd.ntmps37
    go_wp2
    go_ret
    exact ⟨rfl, rfl⟩
theorem implIn_any (n lo hi : Int) (w : World) : Calls Tryd.prog 40 #[.int .i64 n, .int .i64 lo, .int .i64 hi] w fun e w' => e = .returned (.bool (decide (lo ≤ n) && decide (n ≤ hi))) ∧ w = w' := by
  cases h1 : decide (lo ≤ n) <;> cases h2 : decide (n ≤ hi)
  all_goals
    go_enter Tryd.func40, Tryd.ntmps40
    go_wp2
    go_ret
    exact ⟨rfl, rfl⟩

set_option maxHeartbeats 4000000 in
theorem specWindOk_any (k : Int) (s : Nat) (w : World) : Calls Tryd.prog 30 #[wd k s] w fun e w' => e = .returned (.bool (wkB k s)) ∧ Below w.heap.size w w' := by
  have hu30 := Tryd.underlying30
  cases hA : (decide (0 ≤ k) && decide (k ≤ 36)) <;> cases hB : kn s <;> cases hC : (FloatKind.f64.format.order s 0 == some .gt) <;> cases hD : (FloatKind.f64.format.order s 0 == some .eq) <;> cases hE : (k == 0)
  all_goals
    go_enter Tryd.func30, Tryd.ntmps30
    go_wp2_with (first
      | (go_at_call 37; refine (specIn_any _ _ _ _).mono ?_; rintro e w' ⟨rfl, rfl⟩)
      | (go_at_call 48; refine (specKnown_any _ _).mono ?_; rintro e w' ⟨rfl, n, rfl⟩))
    go_ret
    exact ⟨ret_bool (by unfold wkB; simp [hA, hB, hC, hD, hE]), by first | exact Joins.below_alloc1 _ _ | exact draws (Joins.below_alloc1 _ _) _⟩

set_option maxHeartbeats 4000000 in
theorem implWindOk_any (k : Int) (s : Nat) (hs : Hid (s < 18446744073709551616)) (w : World) : Calls Tryd.prog 32 #[wd k s] w fun e w' => e = .returned (.bool (wkB k s)) ∧ Below w.heap.size w w' := by
  have hu30 := Tryd.underlying30
  cases hA : (decide (0 ≤ k) && decide (k ≤ 36)) <;> cases hB : kn s <;> cases hC : (FloatKind.f64.format.order s 0 == some .gt) <;> cases hD : (FloatKind.f64.format.order s 0 == some .eq) <;> cases hE : (k == 0)
  all_goals
    go_enter Tryd.func32, Tryd.ntmps32
    go_wp2_with (first
      | (go_at_call 40; refine (implIn_any _ _ _ _).mono ?_; rintro e w' ⟨rfl, rfl⟩)
      | (go_at_call 49; refine (implKnown_any _ hs.out _).mono ?_; rintro e w' ⟨rfl, rfl⟩))
    go_ret
    exact ⟨ret_bool (by unfold wkB; simp [hA, hB, hC, hD, hE]), by first | exact Joins.below_alloc1 _ _ | exact draws (Joins.below_alloc1 _ _) _⟩
end Go.Proofs.YtbgacfjocjcffabDoor.Dw
