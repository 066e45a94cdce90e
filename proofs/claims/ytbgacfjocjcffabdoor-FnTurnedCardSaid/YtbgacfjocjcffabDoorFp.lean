/-
  Contracts of the functions on pairs of floats (ConjPair, AddPair, MulPair of both sides, toPair, eqPair), and of the laws of these three.
  Conditions: none beyond the floats' bits under 2^64 where told.
-/
import Derived.Test.YtbgacfjocjcffabDoorFc
import Derived.Lib.SmallJoins
namespace Go.Proofs.YtbgacfjocjcffabDoor.Fp
open Go Go.RowKit Go.Proofs.YtbgacfjocjcffabDoor.Fk Go.Proofs.YtbgacfjocjcffabDoor.Qs Go.Proofs.YtbgacfjocjcffabDoor.Fw Go.Proofs.YtbgacfjocjcffabDoor.Fc

theorem run_store_float {P : Program} {w : World} {a : Addr} {m : Mode} (k : FloatKind) (x : Nat) : (store a (.float k x) m).run P w = stored P w a (.float k x) m := run_store P w a _ m rfl
theorem drewN_setCell (w : World) (n : Nat) (a : Addr) (v : Value) : (w.drewN n).setCell a v = (w.setCell a v).drewN n := rfl
theorem drewN_alloc (w : World) (n : Nat) (o : Obj) : (w.drewN n).alloc o = (w.alloc o).drewN n := rfl
attribute [local go_sem] run_store_float drewN_setCell drewN_alloc

theorem heap_alloc3_mid (w : World) (A B C : Obj) : (((w.alloc A).alloc B).alloc C).heap[w.heap.size + 1]? = some B := by
  rw [Below.heap_alloc _ _ _ (by simp)]
  exact heap_alloc2_new w A B
theorem heap_alloc3_new (w : World) (A B C : Obj) : (((w.alloc A).alloc B).alloc C).heap[w.heap.size + 1 + 1]? = some C := by
  have := heap_alloc2_new (w.alloc A) B C
  simpa using this
theorem draws {w u : World} (h : Below w.heap.size w u) (n : Nat) : Below w.heap.size w (u.drewN n) := ⟨h.os, h.tape, h.output, h.size, h.block⟩
theorem step {w u v : World} (h : Below w.heap.size w u) (k : Below u.heap.size u v) : Below w.heap.size w v := h.trans (k.mono h.size)

abbrev pr (a b : Nat) : Value := .agg #[.float .f64 a, .float .f64 b]

theorem sfB_of {a b : Nat} (h : can a = can b) : sfB (can a) (can b) = true := by rw [h]; exact sfB_self _
theorem sameFloat_of (a b : Nat) (h : can a = can b) (w : World) : Calls Tryd.prog 23 #[.float .f64 a, .float .f64 b] w fun e w' => e = .returned (.bool true) ∧ ∃ n, w' = w.drewN n :=
  (sameFloat_any a b w).mono fun e w' ⟨he, hw⟩ => ⟨by rw [he, sfB_of h], hw⟩

set_option maxHeartbeats 1000000 in
theorem eqPair_of (a b c d : Nat) (h1 : can a = can c) (h2 : can b = can d) (w : World) : Calls Tryd.prog 14 #[pr a b, pr c d] w fun e w' => e = .returned (.bool true) ∧ Below w.heap.size w w' := by
  have q1 := sfB_of h1
  have q2 := sfB_of h2
  clear h1 h2
  go_enter Tryd.func14, Tryd.ntmps14
  go_wp2_with (go_at_call 23; refine (sameFloat_any _ _ _).mono ?_; rintro e w' ⟨rfl, n, rfl⟩)
  go_ret
  exact ⟨rfl, draws (Joins.below_alloc2 _ _ _) _⟩

abbrev cells2 (a b : Nat) (t : TypeId) : Obj := .cells #[.float .f64 a, .float .f64 b] t (0, 0)
theorem keep_row {w w' : World} {g : Nat} {o : Obj} (h : w.heap[g]? = some o) (hb : Below w.heap.size w w') : w'.heap[g]? = some o := by
  rw [hb.block g (Array.getElem?_eq_some_iff.1 h).1]; exact h
theorem row_cell {w : World} {g : Nat} {a b : Nat} {t : TypeId} (h : w.heap[g]? = some (cells2 a b t)) (i : Nat) : w.cell? ⟨g, i, none⟩ = (#[Value.float .f64 a, Value.float .f64 b] : Array Value)[i]? := by
  simp [World.cell?, h]
theorem row_frozen {w : World} {g : Nat} {a b : Nat} {t : TypeId} (h : w.heap[g]? = some (cells2 a b t)) (i : Nat) : w.frozen? ⟨g, i, none⟩ = false := by
  simp [World.frozen?, h]

theorem row_lt {w : World} {g : Nat} {o : Obj} (h : w.heap[g]? = some o) : g < w.heap.size := (Array.getElem?_eq_some_iff.1 h).1

end Go.Proofs.YtbgacfjocjcffabDoor.Fp
