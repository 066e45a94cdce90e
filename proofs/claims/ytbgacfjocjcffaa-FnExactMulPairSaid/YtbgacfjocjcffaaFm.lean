/-
  The laws of AddPair and MulPair out of the two sides' contracts: two regions that draw their order, each with two loads, three calls, a new block and a store into it.
  Conditions: none.
-/
import Derived.Test.YtbgacfjocjcffaaFp
import Derived.Deep.RegionHeld3
namespace Go.Proofs.Ytbgacfjocjcffaa.Fm
open Go Go.RowKit Go.Proofs.Ytbgacfjocjcffaa.Fk Go.Proofs.Ytbgacfjocjcffaa.Qs Go.Proofs.Ytbgacfjocjcffaa.Fw Go.Proofs.Ytbgacfjocjcffaa.Fc Go.Proofs.Ytbgacfjocjcffaa.Fp
attribute [local go_sem] run_store_float drewN_setCell drewN_alloc
set_option linter.unusedVariables false

theorem row_alloc {w : World} {g : Nat} {o o' : Obj} (h : w.heap[g]? = some o) : (w.alloc o').heap[g]? = some o := by
  rw [Below.heap_alloc _ _ _ (row_lt h)]; exact h
theorem row_set {w : World} {g g' j : Nat} {o : Obj} {v : Value} (h : w.heap[g]? = some o) (hn : g < g') : (w.setCell ⟨g', j, none⟩ v).heap[g]? = some o := by
  rw [Below.heap_setCell _ _ _ _ (by show g ≠ g'; omega)]; exact h
theorem row_put2 {w : World} {g x y r s : Nat} {t : TypeId} (h : w.heap[g]? = some (cells2 x y t)) : ((w.setCell ⟨g, 0, none⟩ (.float .f64 r)).setCell ⟨g, 1, none⟩ (.float .f64 s)).heap[g]? = some (cells2 r s t) := by
  obtain ⟨hl, he⟩ := Array.getElem?_eq_some_iff.1 h
  simp [World.setCell, Array.getElem?_modify, h, cells2]
theorem balloc {w u : World} (h : Below w.heap.size w u) (o : Obj) : Below w.heap.size w (u.alloc o) := h.alloc h.size o
theorem bset2 {w0 w : World} {g : Nat} (hb : Below w0.heap.size w0 w) (z : w0.heap.size ≤ g) (u v : Value) : Below w0.heap.size w0 ((w.setCell ⟨g, 0, none⟩ u).setCell ⟨g, 1, none⟩ v) :=
  (hb.setCell (p := ⟨g, 0, none⟩) z u).setCell (p := ⟨g, 1, none⟩) z v
theorem SS {w0 w : World} {a b c d : Nat} (h0 : w.heap[w0.heap.size]? = some (cells2 a b 26)) (h1 : w.heap[w0.heap.size + 1]? = some (cells2 c d 26)) (hb : Below w0.heap.size w0 w) :
    w.heap[w0.heap.size]? = some (cells2 a b 26) ∧ w.heap[w0.heap.size + 1]? = some (cells2 c d 26) ∧ Below w0.heap.size w0 (w) ∧ w.cell? ⟨w0.heap.size, 0, none⟩ = some (.float .f64 a) ∧ w.cell? ⟨w0.heap.size, 1, none⟩ = some (.float .f64 b) ∧ w.cell? ⟨w0.heap.size + 1, 0, none⟩ = some (.float .f64 c) ∧ w.cell? ⟨w0.heap.size + 1, 1, none⟩ = some (.float .f64 d) :=
  ⟨h0, h1, hb, row_cell h0 0, row_cell h0 1, row_cell h1 0, row_cell h1 1⟩
theorem SSs {w0 w : World} {a b c d g : Nat} (h0 : w.heap[w0.heap.size]? = some (cells2 a b 26)) (h1 : w.heap[w0.heap.size + 1]? = some (cells2 c d 26)) (hb : Below w0.heap.size w0 w) (z1 : w0.heap.size + 1 < g) (u v : Value) :
    ((w.setCell ⟨g, 0, none⟩ u).setCell ⟨g, 1, none⟩ v).heap[w0.heap.size]? = some (cells2 a b 26) ∧ ((w.setCell ⟨g, 0, none⟩ u).setCell ⟨g, 1, none⟩ v).heap[w0.heap.size + 1]? = some (cells2 c d 26) ∧ Below w0.heap.size w0 (((w.setCell ⟨g, 0, none⟩ u).setCell ⟨g, 1, none⟩ v)) ∧ ((w.setCell ⟨g, 0, none⟩ u).setCell ⟨g, 1, none⟩ v).cell? ⟨w0.heap.size, 0, none⟩ = some (.float .f64 a) ∧ ((w.setCell ⟨g, 0, none⟩ u).setCell ⟨g, 1, none⟩ v).cell? ⟨w0.heap.size, 1, none⟩ = some (.float .f64 b) ∧ ((w.setCell ⟨g, 0, none⟩ u).setCell ⟨g, 1, none⟩ v).cell? ⟨w0.heap.size + 1, 0, none⟩ = some (.float .f64 c) ∧ ((w.setCell ⟨g, 0, none⟩ u).setCell ⟨g, 1, none⟩ v).cell? ⟨w0.heap.size + 1, 1, none⟩ = some (.float .f64 d) :=
  SS (row_set (row_set h0 (by omega)) (by omega)) (row_set (row_set h1 z1) z1) (bset2 hb (by omega) u v)
theorem S3 {w0 w : World} {a b c d g r s : Nat} (h0 : w.heap[w0.heap.size]? = some (cells2 a b 26)) (h1 : w.heap[w0.heap.size + 1]? = some (cells2 c d 26)) (hb : Below w0.heap.size w0 w) (h2 : w.heap[g]? = some (cells2 r s 27)) :
    w.heap[w0.heap.size]? = some (cells2 a b 26) ∧ w.heap[w0.heap.size + 1]? = some (cells2 c d 26) ∧ Below w0.heap.size w0 (w) ∧ w.heap[g]? = some (cells2 r s 27) ∧ w.cell? ⟨w0.heap.size, 0, none⟩ = some (.float .f64 a) ∧ w.cell? ⟨w0.heap.size, 1, none⟩ = some (.float .f64 b) ∧ w.cell? ⟨w0.heap.size + 1, 0, none⟩ = some (.float .f64 c) ∧ w.cell? ⟨w0.heap.size + 1, 1, none⟩ = some (.float .f64 d) :=
  ⟨h0, h1, hb, h2, row_cell h0 0, row_cell h0 1, row_cell h1 0, row_cell h1 1⟩
theorem S3s {w0 w : World} {a b c d g g' r s : Nat} (h0 : w.heap[w0.heap.size]? = some (cells2 a b 26)) (h1 : w.heap[w0.heap.size + 1]? = some (cells2 c d 26)) (hb : Below w0.heap.size w0 w) (h2 : w.heap[g]? = some (cells2 r s 27)) (z1 : w0.heap.size + 1 < g') (z2 : g < g') (u v : Value) :
    ((w.setCell ⟨g', 0, none⟩ u).setCell ⟨g', 1, none⟩ v).heap[w0.heap.size]? = some (cells2 a b 26) ∧ ((w.setCell ⟨g', 0, none⟩ u).setCell ⟨g', 1, none⟩ v).heap[w0.heap.size + 1]? = some (cells2 c d 26) ∧ Below w0.heap.size w0 (((w.setCell ⟨g', 0, none⟩ u).setCell ⟨g', 1, none⟩ v)) ∧ ((w.setCell ⟨g', 0, none⟩ u).setCell ⟨g', 1, none⟩ v).heap[g]? = some (cells2 r s 27) ∧ ((w.setCell ⟨g', 0, none⟩ u).setCell ⟨g', 1, none⟩ v).cell? ⟨w0.heap.size, 0, none⟩ = some (.float .f64 a) ∧ ((w.setCell ⟨g', 0, none⟩ u).setCell ⟨g', 1, none⟩ v).cell? ⟨w0.heap.size, 1, none⟩ = some (.float .f64 b) ∧ ((w.setCell ⟨g', 0, none⟩ u).setCell ⟨g', 1, none⟩ v).cell? ⟨w0.heap.size + 1, 0, none⟩ = some (.float .f64 c) ∧ ((w.setCell ⟨g', 0, none⟩ u).setCell ⟨g', 1, none⟩ v).cell? ⟨w0.heap.size + 1, 1, none⟩ = some (.float .f64 d) :=
  S3 (row_set (row_set h0 (by omega)) (by omega)) (row_set (row_set h1 z1) z1) (bset2 hb (by omega) u v) (row_set (row_set h2 z2) z2)
def addR (a b c d : Nat) : Option Nat := fop .add (can a) (can c)
def addS (a b c d : Nat) : Option Nat := fop .add (can b) (can d)
def mulR (a b c d : Nat) : Option Nat := fop .sub (fop .mul (can a) (can c)) (fop .mul (can b) (can d))
def mulS (a b c d : Nat) : Option Nat := fop .add (fop .mul (can a) (can d)) (fop .mul (can b) (can c))

theorem specAdd_any (a b c d : Nat) (w : World) : Calls Try.prog 26 #[pr a b, pr c d] w fun e w' => ∃ r s, e = .returned (pr r s) ∧ can r = addR a b c d ∧ can s = addS a b c d ∧ Below w.heap.size w w' := by
  go_enter Try.func26, Try.ntmps26
  go_wp2_with (refine wpList_fop rfl rfl (by decide) rfl rfl ?_; intro r n hr hl; have hr' := Lib.hid hr; clear hr)
  rename_i r0 n0 l0 hr0
  refine bodyPost_ret (results_cell_row rfl _ _ (w.heap.size + 1 + 1) 27 #[.float .f64 r0, .float .f64 r] (0, 0) _ rfl (heap_alloc3_new _ _ _ _) Try.underlying27 rfl (by kernel_rfl)) rfl ?_
  exact ⟨_, _, rfl, hr0.out, hr'.out, draws (Joins.below_alloc3 _ _ _ _) _⟩

theorem implAdd_any (a b c d : Nat) (w : World) : Calls Try.prog 27 #[pr a b, pr c d] w fun e w' => ∃ r s, e = .returned (pr r s) ∧ can r = addR a b c d ∧ can s = addS a b c d ∧ Below w.heap.size w w' := by
  go_enter Try.func27, Try.ntmps27
  go_wp2_with (refine wpList_fop rfl rfl (by decide) rfl rfl ?_; intro r n hr hl; have hr' := Lib.hid hr; clear hr)
  rename_i r0 n0 l0 hr0
  refine bodyPost_ret (results_cell_row rfl _ _ (w.heap.size + 1 + 1) 27 #[.float .f64 r0, .float .f64 r] (0, 0) _ rfl (heap_alloc3_new _ _ _ _) Try.underlying27 rfl (by kernel_rfl)) rfl ?_
  exact ⟨_, _, rfl, hr0.out, hr'.out, draws (Joins.below_alloc3 _ _ _ _) _⟩

set_option maxHeartbeats 8000000 in
theorem lawAdd (a b c d : Nat) (w : World) : Calls Try.prog 6 #[pr a b, pr c d] w fun e w' => e = .returned (.bool true) ∧ Below w.heap.size w w' := by
  go_enter Try.func6, Try.ntmps6
  go_wp2
  have H0 : ((w.alloc (cells2 a b 26)).alloc (cells2 c d 26)).heap[w.heap.size]? = some (cells2 a b 26) := row_alloc (heap_alloc_new _ _)
  have H1 : ((w.alloc (cells2 a b 26)).alloc (cells2 c d 26)).heap[w.heap.size + 1]? = some (cells2 c d 26) := heap_alloc2_new _ _ _
  have HB := Joins.below_alloc2 w (cells2 a b 26) (cells2 c d 26)
  obtain ⟨o1, o2, o3, h2, h3, h4, h5⟩ := SS H0 H1 HB
  generalize (w.alloc (Obj.cells #[Value.float FloatKind.f64 a, Value.float FloatKind.f64 b] 26)).alloc (Obj.cells #[Value.float FloatKind.f64 c, Value.float FloatKind.f64 d] 26) = w1 at *
  refine Code.wp_mono (Q := fun e a' w' => ∃ (g r s : Nat), e = .normal ∧ a' = { tmps := #[pr a b, pr c d, .pointer (some ⟨w.heap.size, 0, none⟩), .pointer (some ⟨w.heap.size + 1, 0, none⟩), .bool false, .pointer (some ⟨g, 0, none⟩), undef, pr a b, pr a b, pr c d, pr c d, pr r s, undef, undef, undef, undef, undef, undef, undef, undef, undef], defers := [] } ∧ can r = addR a b c d ∧ can s = addS a b c d ∧ w'.heap[w.heap.size]? = some (cells2 a b 26) ∧ w'.heap[w.heap.size + 1]? = some (cells2 c d 26) ∧ Below w.heap.size w w' ∧ w'.heap[g]? = some (cells2 r s 27)) ?mono ?reg
  case reg =>
    go_region_held3 (fun v => v.heap[w.heap.size]? = some (cells2 a b 26) ∧ v.heap[w.heap.size + 1]? = some (cells2 c d 26) ∧ Below w.heap.size w (v) ∧ v.cell? ⟨w.heap.size, 0, none⟩ = some (.float .f64 a) ∧ v.cell? ⟨w.heap.size, 1, none⟩ = some (.float .f64 b) ∧ v.cell? ⟨w.heap.size + 1, 0, none⟩ = some (.float .f64 c) ∧ v.cell? ⟨w.heap.size + 1, 1, none⟩ = some (.float .f64 d)) (first | exact SS (by assumption) (by assumption) (by assumption) | exact SS (by assumption) (by assumption) (Below.drew (by assumption)) | exact SS (row_alloc (by assumption)) (row_alloc (by assumption)) (balloc (by assumption) _) | exact SS (row_alloc (by assumption)) (row_alloc (by assumption)) (Below.drew (balloc (by assumption) _)) | exact SSs (by assumption) (by assumption) (by assumption) (row_lt (by assumption)) _ _ | go_keep) (first | (go_at_call 23; refine (toPair_any _ _ _).mono ?_; rintro e w' ⟨rfl, hb⟩; have k0 := keep_row (g := w.heap.size) (o := cells2 a b 26) (by first | assumption | exact row_alloc (by assumption)) hb; have k1 := keep_row (g := w.heap.size + 1) (o := cells2 c d 26) (by first | assumption | exact row_alloc (by assumption)) hb; have kb : Below w.heap.size w w' := Fp.step (by first | assumption | exact Below.drew (by assumption) | exact balloc (by assumption) _ | exact balloc (Below.drew (by assumption)) _) hb; (try (have kn := keep_row (by first | exact heap_alloc_new _ _ | exact kn) hb; have n0 := row_cell kn 0; have n1 := row_cell kn 1; have f0 := row_frozen kn 0; have f1 := row_frozen kn 1; have l0 := row_lt kn)); clear hb) | (go_at_call 26; refine (specAdd_any _ _ _ _ _).mono ?_; rintro e w' ⟨r, s, rfl, hx, hy, hb⟩; have k0 := keep_row (g := w.heap.size) (o := cells2 a b 26) (by first | assumption | exact row_alloc (by assumption)) hb; have k1 := keep_row (g := w.heap.size + 1) (o := cells2 c d 26) (by first | assumption | exact row_alloc (by assumption)) hb; have kb : Below w.heap.size w w' := Fp.step (by first | assumption | exact Below.drew (by assumption) | exact balloc (by assumption) _ | exact balloc (Below.drew (by assumption)) _) hb; (try (have kn := keep_row (by first | exact heap_alloc_new _ _ | exact kn) hb; have n0 := row_cell kn 0; have n1 := row_cell kn 1; have f0 := row_frozen kn 0; have f1 := row_frozen kn 1; have l0 := row_lt kn)); clear hb))
    · exact ⟨_, _, _, rfl, rfl, hx, hy, row_alloc k0, row_alloc k1, balloc kb _, heap_alloc_new _ _⟩
    all_goals exact ⟨_, _, _, rfl, rfl, hx, hy, (SSs k0 k1 kb (row_lt (by assumption)) _ _).1, (SSs k0 k1 kb (row_lt (by assumption)) _ _).2.1, (SSs k0 k1 kb (row_lt (by assumption)) _ _).2.2.1, row_put2 kn⟩
  case mono =>
    rename_i Q' K aK
    rintro e a' w2 ⟨g, r, s, rfl, rfl, hr, hs, k0, k1, kb, kg⟩
    refine aK _ _ ?_
    clear aK H0 H1 HB o1 o2 o3 h2 h3 h4 h5
    replace hr := Lib.hid hr
    replace hs := Lib.hid hs
    go_wp2
    obtain ⟨o1, o2, o3, o4, h2, h3, h4, h5⟩ := S3 k0 k1 kb kg
    refine Code.wp_mono (Q := fun e a' w' => ∃ (g' r' s' : Nat), e = .normal ∧ a' = { tmps := #[pr a b, pr c d, .pointer (some ⟨w.heap.size, 0, none⟩), .pointer (some ⟨w.heap.size + 1, 0, none⟩), .bool false, .pointer (some ⟨g, 0, none⟩), .pointer (some ⟨g', 0, none⟩), pr a b, pr a b, pr c d, pr c d, pr r s, pr a b, pr a b, pr c d, pr c d, pr r' s', undef, undef, undef, undef], defers := [] } ∧ can r' = addR a b c d ∧ can s' = addS a b c d ∧ Below w.heap.size w w' ∧ w'.heap[g]? = some (cells2 r s 27) ∧ w'.heap[g']? = some (cells2 r' s' 27)) ?mono ?reg
    case reg =>
      go_region_held3 (fun v => v.heap[w.heap.size]? = some (cells2 a b 26) ∧ v.heap[w.heap.size + 1]? = some (cells2 c d 26) ∧ Below w.heap.size w (v) ∧ v.heap[g]? = some (cells2 r s 27) ∧ v.cell? ⟨w.heap.size, 0, none⟩ = some (.float .f64 a) ∧ v.cell? ⟨w.heap.size, 1, none⟩ = some (.float .f64 b) ∧ v.cell? ⟨w.heap.size + 1, 0, none⟩ = some (.float .f64 c) ∧ v.cell? ⟨w.heap.size + 1, 1, none⟩ = some (.float .f64 d)) (first | exact S3 (by assumption) (by assumption) (by assumption) (by assumption) | exact S3 (by assumption) (by assumption) (Below.drew (by assumption)) (by assumption) | exact S3 (row_alloc (by assumption)) (row_alloc (by assumption)) (balloc (by assumption) _) (row_alloc (by assumption)) | exact S3 (row_alloc (by assumption)) (row_alloc (by assumption)) (Below.drew (balloc (by assumption) _)) (row_alloc (by assumption)) | exact S3s (by assumption) (by assumption) (by assumption) (by assumption) (row_lt (by assumption)) (row_lt (by assumption)) _ _ | go_keep) (first | (go_at_call 23; refine (toPair_any _ _ _).mono ?_; rintro e w' ⟨rfl, hb⟩; have k0 := keep_row (g := w.heap.size) (o := cells2 a b 26) (by first | assumption | exact row_alloc (by assumption)) hb; have k1 := keep_row (g := w.heap.size + 1) (o := cells2 c d 26) (by first | assumption | exact row_alloc (by assumption)) hb; have kb : Below w.heap.size w w' := Fp.step (by first | assumption | exact Below.drew (by assumption) | exact balloc (by assumption) _ | exact balloc (Below.drew (by assumption)) _) hb; (try (have kn := keep_row (by first | exact heap_alloc_new _ _ | exact kn) hb; have n0 := row_cell kn 0; have n1 := row_cell kn 1; have f0 := row_frozen kn 0; have f1 := row_frozen kn 1; have l0 := row_lt kn)); have k2 := keep_row (g := g) (o := cells2 r s 27) (by first | assumption | exact row_alloc (by assumption)) hb; clear hb) | (go_at_call 27; refine (implAdd_any _ _ _ _ _).mono ?_; rintro e w' ⟨r', s', rfl, hx, hy, hb⟩; have k0 := keep_row (g := w.heap.size) (o := cells2 a b 26) (by first | assumption | exact row_alloc (by assumption)) hb; have k1 := keep_row (g := w.heap.size + 1) (o := cells2 c d 26) (by first | assumption | exact row_alloc (by assumption)) hb; have kb : Below w.heap.size w w' := Fp.step (by first | assumption | exact Below.drew (by assumption) | exact balloc (by assumption) _ | exact balloc (Below.drew (by assumption)) _) hb; (try (have kn := keep_row (by first | exact heap_alloc_new _ _ | exact kn) hb; have n0 := row_cell kn 0; have n1 := row_cell kn 1; have f0 := row_frozen kn 0; have f1 := row_frozen kn 1; have l0 := row_lt kn)); have k2 := keep_row (g := g) (o := cells2 r s 27) (by first | assumption | exact row_alloc (by assumption)) hb; clear hb))
      · exact ⟨_, _, _, rfl, rfl, hx, hy, balloc kb _, row_alloc k2, heap_alloc_new _ _⟩
      all_goals exact ⟨_, _, _, rfl, rfl, hx, hy, (S3s k0 k1 kb k2 (row_lt (by assumption)) (row_lt (by assumption)) _ _).2.2.1, (S3s k0 k1 kb k2 (row_lt (by assumption)) (row_lt (by assumption)) _ _).2.2.2.1, row_put2 kn⟩
    case mono =>
      rename_i K2 aK
      rintro e a' w3 ⟨g', r', s', rfl, rfl, hx, hy, kb', kg', kn⟩
      refine aK _ _ ?_
      clear aK o1 o2 o3 o4 h2 h3 h4 h5 k0 k1 kb kg
      have e1 := Lib.hid (hx.trans hr.out.symm)
      have e2 := Lib.hid (hy.trans hs.out.symm)
      have HB := Lib.hid kb'
      clear hx hy hr hs kb'
      have c0 := row_cell kg' 0
      have c1 := row_cell kg' 1
      have d0 := row_cell kn 0
      have d1 := row_cell kn 1
      clear kg' kn
      go_wp2_with (go_at_call 25; refine (eqPair_of _ _ _ _ e1.out e2.out _).mono ?_; rintro e w' ⟨rfl, hb⟩; replace HB := Lib.hid (Fp.step HB.out hb); clear hb)
      go_ret
      exact ⟨rfl, HB.out⟩
end Go.Proofs.Ytbgacfjocjcffaa.Fm
