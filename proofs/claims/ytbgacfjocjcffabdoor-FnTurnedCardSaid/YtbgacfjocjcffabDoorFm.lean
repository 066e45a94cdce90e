/-
  The laws of AddPair and MulPair out of the two sides' contracts: two regions that draw their order, each with two loads, three calls, a new block and a store into it.
  Conditions: none.
-/
import Derived.Test.YtbgacfjocjcffabDoorFp
import Derived.Deep.RegionHeld3
namespace Go.Proofs.YtbgacfjocjcffabDoor.Fm
open Go Go.RowKit Go.Proofs.YtbgacfjocjcffabDoor.Fk Go.Proofs.YtbgacfjocjcffabDoor.Qs Go.Proofs.YtbgacfjocjcffabDoor.Fw Go.Proofs.YtbgacfjocjcffabDoor.Fc Go.Proofs.YtbgacfjocjcffabDoor.Fp
attribute [local go_sem] run_store_float drewN_setCell drewN_alloc
set_option linter.unusedVariables false

theorem row_alloc {w : World} {g : Nat} {o o' : Obj} (h : w.heap[g]? = some o) : (w.alloc o').heap[g]? = some o := by
  rw [Below.heap_alloc _ _ _ (row_lt h)]; exact h
theorem row_set {w : World} {g g' j : Nat} {o : Obj} {v : Value} (h : w.heap[g]? = some o) (hn : g < g') : (w.setCell ⟨g', j, none⟩ v).heap[g]? = some o := by
  rw [Below.heap_setCell _ _ _ _ (by show g ≠ g'; omega)]; exact h
theorem row_put2 {w : World} {g x y r s : Nat} {t : TypeId} (h : w.heap[g]? = some (cells2 x y t)) : ((w.setCell ⟨g, 0, none⟩ (.float .f64 r)).setCell ⟨g, 1, none⟩ (.float .f64 s)).heap[g]? = some (cells2 r s t) := by
  obtain ⟨hl, he⟩ := Array.getElem?_eq_some_iff.1 h
  simp [World.setCell, Array.getElem?_modify, h, cells2]
theorem balloc {w u : World} (h : Below w.heap.size w u) (o : Obj) : Below w.heap.size w (u.alloc o) := h.alloc h.size o
theorem bset2 {w0 w : World} {g : Nat} (hb : Below w0.heap.size w0 w) (z : w0.heap.size ≤ g) (u v : Value) : Below w0.heap.size w0 ((w.setCell ⟨g, 0, none⟩ u).setCell ⟨g, 1, none⟩ v) :=
  (hb.setCell (p := ⟨g, 0, none⟩) z u).setCell (p := ⟨g, 1, none⟩) z v
theorem SS {w0 w : World} {a b c d : Nat} (h0 : w.heap[w0.heap.size]? = some (cells2 a b 26)) (h1 : w.heap[w0.heap.size + 1]? = some (cells2 c d 26)) (hb : Below w0.heap.size w0 w) :
    w.heap[w0.heap.size]? = some (cells2 a b 26) ∧ w.heap[w0.heap.size + 1]? = some (cells2 c d 26) ∧ Below w0.heap.size w0 (w) ∧ w.cell? ⟨w0.heap.size, 0, none⟩ = some (.float .f64 a) ∧ w.cell? ⟨w0.heap.size, 1, none⟩ = some (.float .f64 b) ∧ w.cell? ⟨w0.heap.size + 1, 0, none⟩ = some (.float .f64 c) ∧ w.cell? ⟨w0.heap.size + 1, 1, none⟩ = some (.float .f64 d) :=
  ⟨h0, h1, hb, row_cell h0 0, row_cell h0 1, row_cell h1 0, row_cell h1 1⟩
theorem SSs {w0 w : World} {a b c d g : Nat} (h0 : w.heap[w0.heap.size]? = some (cells2 a b 26)) (h1 : w.heap[w0.heap.size + 1]? = some (cells2 c d 26)) (hb : Below w0.heap.size w0 w) (z1 : w0.heap.size + 1 < g) (u v : Value) :
    ((w.setCell ⟨g, 0, none⟩ u).setCell ⟨g, 1, none⟩ v).heap[w0.heap.size]? = some (cells2 a b 26) ∧ ((w.setCell ⟨g, 0, none⟩ u).setCell ⟨g, 1, none⟩ v).heap[w0.heap.size + 1]? = some (cells2 c d 26) ∧ Below w0.heap.size w0 (((w.setCell ⟨g, 0, none⟩ u).setCell ⟨g, 1, none⟩ v)) ∧ ((w.setCell ⟨g, 0, none⟩ u).setCell ⟨g, 1, none⟩ v).cell? ⟨w0.heap.size, 0, none⟩ = some (.float .f64 a) ∧ ((w.setCell ⟨g, 0, none⟩ u).setCell ⟨g, 1, none⟩ v).cell? ⟨w0.heap.size, 1, none⟩ = some (.float .f64 b) ∧ ((w.setCell ⟨g, 0, none⟩ u).setCell ⟨g, 1, none⟩ v).cell? ⟨w0.heap.size + 1, 0, none⟩ = some (.float .f64 c) ∧ ((w.setCell ⟨g, 0, none⟩ u).setCell ⟨g, 1, none⟩ v).cell? ⟨w0.heap.size + 1, 1, none⟩ = some (.float .f64 d) :=
  SS (row_set (row_set h0 (by omega)) (by omega)) (row_set (row_set h1 z1) z1) (bset2 hb (by omega) u v)
theorem S3 {w0 w : World} {a b c d g r s : Nat} (h0 : w.heap[w0.heap.size]? = some (cells2 a b 26)) (h1 : w.heap[w0.heap.size + 1]? = some (cells2 c d 26)) (hb : Below w0.heap.size w0 w) (h2 : w.heap[g]? = some (cells2 r s 28)) :
    w.heap[w0.heap.size]? = some (cells2 a b 26) ∧ w.heap[w0.heap.size + 1]? = some (cells2 c d 26) ∧ Below w0.heap.size w0 (w) ∧ w.heap[g]? = some (cells2 r s 28) ∧ w.cell? ⟨w0.heap.size, 0, none⟩ = some (.float .f64 a) ∧ w.cell? ⟨w0.heap.size, 1, none⟩ = some (.float .f64 b) ∧ w.cell? ⟨w0.heap.size + 1, 0, none⟩ = some (.float .f64 c) ∧ w.cell? ⟨w0.heap.size + 1, 1, none⟩ = some (.float .f64 d) :=
  ⟨h0, h1, hb, h2, row_cell h0 0, row_cell h0 1, row_cell h1 0, row_cell h1 1⟩
theorem S3s {w0 w : World} {a b c d g g' r s : Nat} (h0 : w.heap[w0.heap.size]? = some (cells2 a b 26)) (h1 : w.heap[w0.heap.size + 1]? = some (cells2 c d 26)) (hb : Below w0.heap.size w0 w) (h2 : w.heap[g]? = some (cells2 r s 28)) (z1 : w0.heap.size + 1 < g') (z2 : g < g') (u v : Value) :
    ((w.setCell ⟨g', 0, none⟩ u).setCell ⟨g', 1, none⟩ v).heap[w0.heap.size]? = some (cells2 a b 26) ∧ ((w.setCell ⟨g', 0, none⟩ u).setCell ⟨g', 1, none⟩ v).heap[w0.heap.size + 1]? = some (cells2 c d 26) ∧ Below w0.heap.size w0 (((w.setCell ⟨g', 0, none⟩ u).setCell ⟨g', 1, none⟩ v)) ∧ ((w.setCell ⟨g', 0, none⟩ u).setCell ⟨g', 1, none⟩ v).heap[g]? = some (cells2 r s 28) ∧ ((w.setCell ⟨g', 0, none⟩ u).setCell ⟨g', 1, none⟩ v).cell? ⟨w0.heap.size, 0, none⟩ = some (.float .f64 a) ∧ ((w.setCell ⟨g', 0, none⟩ u).setCell ⟨g', 1, none⟩ v).cell? ⟨w0.heap.size, 1, none⟩ = some (.float .f64 b) ∧ ((w.setCell ⟨g', 0, none⟩ u).setCell ⟨g', 1, none⟩ v).cell? ⟨w0.heap.size + 1, 0, none⟩ = some (.float .f64 c) ∧ ((w.setCell ⟨g', 0, none⟩ u).setCell ⟨g', 1, none⟩ v).cell? ⟨w0.heap.size + 1, 1, none⟩ = some (.float .f64 d) :=
  S3 (row_set (row_set h0 (by omega)) (by omega)) (row_set (row_set h1 z1) z1) (bset2 hb (by omega) u v) (row_set (row_set h2 z2) z2)
def addR (a b c d : Nat) : Option Nat := fop .add (can a) (can c)
def addS (a b c d : Nat) : Option Nat := fop .add (can b) (can d)
def mulR (a b c d : Nat) : Option Nat := fop .sub (fop .mul (can a) (can c)) (fop .mul (can b) (can d))
def mulS (a b c d : Nat) : Option Nat := fop .add (fop .mul (can a) (can d)) (fop .mul (can b) (can c))

theorem specAdd_any (a b c d : Nat) (w : World) : Calls Tryd.prog 38 #[pr a b, pr c d] w fun e w' => ∃ r s, e = .returned (pr r s) ∧ can r = addR a b c d ∧ can s = addS a b c d ∧ Below w.heap.size w w' := by
  go_enter Tryd.func38, Tryd.ntmps38
  go_wp2_with (refine wpList_fop rfl rfl (by decide) rfl rfl ?_; intro r n hr hl; have hr' := Lib.hid hr; clear hr)
  rename_i r0 n0 l0 hr0
  refine bodyPost_ret (results_cell_row rfl _ _ (w.heap.size + 1 + 1) 28 #[.float .f64 r0, .float .f64 r] (0, 0) _ rfl (heap_alloc3_new _ _ _ _) Tryd.underlying28 rfl (by kernel_rfl)) rfl ?_
  exact ⟨_, _, rfl, hr0.out, hr'.out, draws (Joins.below_alloc3 _ _ _ _) _⟩

theorem implAdd_any (a b c d : Nat) (w : World) : Calls Tryd.prog 28 #[pr a b, pr c d] w fun e w' => ∃ r s, e = .returned (pr r s) ∧ can r = addR a b c d ∧ can s = addS a b c d ∧ Below w.heap.size w w' := by
  go_enter Tryd.func28, Tryd.ntmps28
  go_wp2_with (refine wpList_fop rfl rfl (by decide) rfl rfl ?_; intro r n hr hl; have hr' := Lib.hid hr; clear hr)
  rename_i r0 n0 l0 hr0
  refine bodyPost_ret (results_cell_row rfl _ _ (w.heap.size + 1 + 1) 28 #[.float .f64 r0, .float .f64 r] (0, 0) _ rfl (heap_alloc3_new _ _ _ _) Tryd.underlying28 rfl (by kernel_rfl)) rfl ?_
  exact ⟨_, _, rfl, hr0.out, hr'.out, draws (Joins.below_alloc3 _ _ _ _) _⟩

end Go.Proofs.YtbgacfjocjcffabDoor.Fm
