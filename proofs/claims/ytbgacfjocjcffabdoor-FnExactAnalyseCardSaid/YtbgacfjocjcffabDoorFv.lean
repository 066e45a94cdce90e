/-
  Contracts of Vapour (both sides) and of the functions that give a missing value; the law of Vapour.
  Conditions: none.
-/
import Derived.Test.YtbgacfjocjcffabDoorFc
import Derived.Lib.SmallJoins
namespace Go.Proofs.YtbgacfjocjcffabDoor.Fv
open Go Go.RowKit Go.Proofs.YtbgacfjocjcffabDoor.Fk Go.Proofs.YtbgacfjocjcffabDoor.Qs Go.Proofs.YtbgacfjocjcffabDoor.Fw Go.Proofs.YtbgacfjocjcffabDoor.Fc

theorem run_store_float {P : Program} {w : World} {a : Addr} {m : Mode} (k : FloatKind) (x : Nat) : (store a (.float k x) m).run P w = stored P w a (.float k x) m := run_store P w a _ m rfl
theorem drewN_setCell (w : World) (n : Nat) (a : Addr) (v : Value) : (w.drewN n).setCell a v = (w.setCell a v).drewN n := rfl
theorem drewN_alloc (w : World) (n : Nat) (o : Obj) : (w.drewN n).alloc o = (w.alloc o).drewN n := rfl
attribute [local go_sem] run_store_float drewN_setCell drewN_alloc frombits_run
theorem draws {w u : World} (h : Below w.heap.size w u) (n : Nat) : Below w.heap.size w (u.drewN n) := ⟨h.os, h.tape, h.output, h.size, h.block⟩
theorem step {w u v : World} (h : Below w.heap.size w u) (k : Below u.heap.size u v) : Below w.heap.size w v := h.trans (k.mono h.size)

theorem can_qnan : can 9221120237041090561 = none := by decide
theorem l1None_any (w : World) : Calls Tryd.prog 31 #[] w fun e w' => ∃ r n, e = .returned (.float .f64 r) ∧ w' = w.drewN n ∧ can r = none ∧ r < 18446744073709551616 := by
  go_enter Tryd.func31, Tryd.ntmps31
  go_wp2_with (refine wpList_fop rfl rfl (by decide) rfl rfl ?_; intro r n hr hl; have hr' := Lib.hid hr; clear hr)
  go_ret
  exact ⟨_, _, rfl, rfl, by rw [hr'.out]; decide, by assumption⟩
theorem mathNaN_any (w : World) : Calls Tryd.prog 50 #[] w fun e w' => e = .returned (.float .f64 9221120237041090561) ∧ w = w' := by
  go_enter Tryd.func50, Tryd.ntmps50
  go_wp2
  go_ret
  exact ⟨rfl, rfl⟩
theorem nan_any (w : World) : Calls Tryd.prog 33 #[] w fun e w' => e = .returned (.float .f64 9221120237041090561) ∧ w = w' := by
  go_enter Tryd.func33, Tryd.ntmps33
  go_wp2_with (go_at_call 50; refine (mathNaN_any _).mono ?_; rintro e w' ⟨rfl, rfl⟩)
  go_ret
  exact ⟨rfl, rfl⟩

end Go.Proofs.YtbgacfjocjcffabDoor.Fv
