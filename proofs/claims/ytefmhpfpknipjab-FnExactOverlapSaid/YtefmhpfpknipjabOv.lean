/-
  The law of Overlap out of the two sides' contracts: two regions that draw their order, each with two loads, three calls, a new block and a store into it; and that both sides give one triple.
  Conditions: none.
-/
import Derived.Test.YtefmhpfpknipjabQFnExactOverlapx1
import Derived.Deep.RegionHeld3
import Derived.Lib.SmallJoins
import Derived.Lib.Hide
namespace Go.Proofs.Ytefmhpfpknipjab.Ov
open Go Go.RowKit Go.Proofs.Ytefmhpfpknipjab.PFnExactOverlap
set_option linter.unusedVariables false

abbrev sp (a b : Int) : Value := .agg #[.int .i64 a, .int .i64 b]
abbrev cells2 (a b : Int) (t : TypeId) : Obj := .cells #[.int .i64 a, .int .i64 b] t (0, 0)
theorem step {w u v : World} (h : Below w.heap.size w u) (k : Below u.heap.size u v) : Below w.heap.size w v := h.trans (k.mono h.size)
theorem keep_row {w w' : World} {g : Nat} {o : Obj} (h : w.heap[g]? = some o) (hb : Below w.heap.size w w') : w'.heap[g]? = some o := by
  rw [hb.block g (Array.getElem?_eq_some_iff.1 h).1]; exact h
theorem row_cell {w : World} {g : Nat} {a b : Int} {t : TypeId} (h : w.heap[g]? = some (cells2 a b t)) (i : Nat) : w.cell? ⟨g, i, none⟩ = (#[Value.int .i64 a, Value.int .i64 b] : Array Value)[i]? := by
  simp [World.cell?, h]
theorem row_frozen {w : World} {g : Nat} {a b : Int} {t : TypeId} (h : w.heap[g]? = some (cells2 a b t)) (i : Nat) : w.frozen? ⟨g, i, none⟩ = false := by
  simp [World.frozen?, h]
theorem row_lt {w : World} {g : Nat} {o : Obj} (h : w.heap[g]? = some o) : g < w.heap.size := (Array.getElem?_eq_some_iff.1 h).1

theorem row_alloc {w : World} {g : Nat} {o o' : Obj} (h : w.heap[g]? = some o) : (w.alloc o').heap[g]? = some o := by
  rw [Below.heap_alloc _ _ _ (row_lt h)]; exact h
theorem row_set {w : World} {g g' j : Nat} {o : Obj} {v : Value} (h : w.heap[g]? = some o) (hn : g < g') : (w.setCell ⟨g', j, none⟩ v).heap[g]? = some o := by
  rw [Below.heap_setCell _ _ _ _ (by show g ≠ g'; omega)]; exact h
theorem row_put2 {w : World} {g : Nat} {x y r s : Int} {t : TypeId} (h : w.heap[g]? = some (cells2 x y t)) : ((w.setCell ⟨g, 0, none⟩ (.int .i64 r)).setCell ⟨g, 1, none⟩ (.int .i64 s)).heap[g]? = some (cells2 r s t) := by
  obtain ⟨hl, he⟩ := Array.getElem?_eq_some_iff.1 h
  simp [World.setCell, Array.getElem?_modify, h, cells2]
theorem balloc {w u : World} (h : Below w.heap.size w u) (o : Obj) : Below w.heap.size w (u.alloc o) := h.alloc h.size o
theorem bset2 {w0 w : World} {g : Nat} (hb : Below w0.heap.size w0 w) (z : w0.heap.size ≤ g) (u v : Value) : Below w0.heap.size w0 ((w.setCell ⟨g, 0, none⟩ u).setCell ⟨g, 1, none⟩ v) :=
  (hb.setCell (p := ⟨g, 0, none⟩) z u).setCell (p := ⟨g, 1, none⟩) z v
theorem SS {w0 w : World} {a b c d : Int} (h0 : w.heap[w0.heap.size]? = some (cells2 a b 44)) (h1 : w.heap[w0.heap.size + 1]? = some (cells2 c d 44)) (hb : Below w0.heap.size w0 w) :
    w.heap[w0.heap.size]? = some (cells2 a b 44) ∧ w.heap[w0.heap.size + 1]? = some (cells2 c d 44) ∧ Below w0.heap.size w0 (w) ∧ w.cell? ⟨w0.heap.size, 0, none⟩ = some (.int .i64 a) ∧ w.cell? ⟨w0.heap.size, 1, none⟩ = some (.int .i64 b) ∧ w.cell? ⟨w0.heap.size + 1, 0, none⟩ = some (.int .i64 c) ∧ w.cell? ⟨w0.heap.size + 1, 1, none⟩ = some (.int .i64 d) :=
  ⟨h0, h1, hb, row_cell h0 0, row_cell h0 1, row_cell h1 0, row_cell h1 1⟩
theorem SSs {w0 w : World} {a b c d : Int} {g : Nat} (h0 : w.heap[w0.heap.size]? = some (cells2 a b 44)) (h1 : w.heap[w0.heap.size + 1]? = some (cells2 c d 44)) (hb : Below w0.heap.size w0 w) (z1 : w0.heap.size + 1 < g) (u v : Value) :
    ((w.setCell ⟨g, 0, none⟩ u).setCell ⟨g, 1, none⟩ v).heap[w0.heap.size]? = some (cells2 a b 44) ∧ ((w.setCell ⟨g, 0, none⟩ u).setCell ⟨g, 1, none⟩ v).heap[w0.heap.size + 1]? = some (cells2 c d 44) ∧ Below w0.heap.size w0 (((w.setCell ⟨g, 0, none⟩ u).setCell ⟨g, 1, none⟩ v)) ∧ ((w.setCell ⟨g, 0, none⟩ u).setCell ⟨g, 1, none⟩ v).cell? ⟨w0.heap.size, 0, none⟩ = some (.int .i64 a) ∧ ((w.setCell ⟨g, 0, none⟩ u).setCell ⟨g, 1, none⟩ v).cell? ⟨w0.heap.size, 1, none⟩ = some (.int .i64 b) ∧ ((w.setCell ⟨g, 0, none⟩ u).setCell ⟨g, 1, none⟩ v).cell? ⟨w0.heap.size + 1, 0, none⟩ = some (.int .i64 c) ∧ ((w.setCell ⟨g, 0, none⟩ u).setCell ⟨g, 1, none⟩ v).cell? ⟨w0.heap.size + 1, 1, none⟩ = some (.int .i64 d) :=
  SS (row_set (row_set h0 (by omega)) (by omega)) (row_set (row_set h1 z1) z1) (bset2 hb (by omega) u v)
theorem S3 {w0 w : World} {a b c d r s : Int} {g : Nat} (h0 : w.heap[w0.heap.size]? = some (cells2 a b 44)) (h1 : w.heap[w0.heap.size + 1]? = some (cells2 c d 44)) (hb : Below w0.heap.size w0 w) (h2 : w.heap[g]? = some (cells2 r s 45)) :
    w.heap[w0.heap.size]? = some (cells2 a b 44) ∧ w.heap[w0.heap.size + 1]? = some (cells2 c d 44) ∧ Below w0.heap.size w0 (w) ∧ w.heap[g]? = some (cells2 r s 45) ∧ w.cell? ⟨w0.heap.size, 0, none⟩ = some (.int .i64 a) ∧ w.cell? ⟨w0.heap.size, 1, none⟩ = some (.int .i64 b) ∧ w.cell? ⟨w0.heap.size + 1, 0, none⟩ = some (.int .i64 c) ∧ w.cell? ⟨w0.heap.size + 1, 1, none⟩ = some (.int .i64 d) :=
  ⟨h0, h1, hb, h2, row_cell h0 0, row_cell h0 1, row_cell h1 0, row_cell h1 1⟩
theorem S3s {w0 w : World} {a b c d r s : Int} {g g' : Nat} (h0 : w.heap[w0.heap.size]? = some (cells2 a b 44)) (h1 : w.heap[w0.heap.size + 1]? = some (cells2 c d 44)) (hb : Below w0.heap.size w0 w) (h2 : w.heap[g]? = some (cells2 r s 45)) (z1 : w0.heap.size + 1 < g') (z2 : g < g') (u v : Value) :
    ((w.setCell ⟨g', 0, none⟩ u).setCell ⟨g', 1, none⟩ v).heap[w0.heap.size]? = some (cells2 a b 44) ∧ ((w.setCell ⟨g', 0, none⟩ u).setCell ⟨g', 1, none⟩ v).heap[w0.heap.size + 1]? = some (cells2 c d 44) ∧ Below w0.heap.size w0 (((w.setCell ⟨g', 0, none⟩ u).setCell ⟨g', 1, none⟩ v)) ∧ ((w.setCell ⟨g', 0, none⟩ u).setCell ⟨g', 1, none⟩ v).heap[g]? = some (cells2 r s 45) ∧ ((w.setCell ⟨g', 0, none⟩ u).setCell ⟨g', 1, none⟩ v).cell? ⟨w0.heap.size, 0, none⟩ = some (.int .i64 a) ∧ ((w.setCell ⟨g', 0, none⟩ u).setCell ⟨g', 1, none⟩ v).cell? ⟨w0.heap.size, 1, none⟩ = some (.int .i64 b) ∧ ((w.setCell ⟨g', 0, none⟩ u).setCell ⟨g', 1, none⟩ v).cell? ⟨w0.heap.size + 1, 0, none⟩ = some (.int .i64 c) ∧ ((w.setCell ⟨g', 0, none⟩ u).setCell ⟨g', 1, none⟩ v).cell? ⟨w0.heap.size + 1, 1, none⟩ = some (.int .i64 d) :=
  S3 (row_set (row_set h0 (by omega)) (by omega)) (row_set (row_set h1 z1) z1) (bset2 hb (by omega) u v) (row_set (row_set h2 z2) z2)

theorem in_eq (a : Int) : impl_isTime.f a = spec_l2Time.f a := by
  unfold impl_isTime.f impl_in.f spec_l2Time.f
  split <;> rfl
theorem time_some (a : Int) : ∃ t, spec_l2Time.f a = some t := by unfold spec_l2Time.f; split <;> exact ⟨_, rfl⟩
theorem ok_eq (a b : Int) : impl_spanOk.f a b = spec_l2SpanOk.f a b := by
  unfold impl_spanOk.f spec_l2SpanOk.f; rw [in_eq, in_eq]
theorem ok_some (a b : Int) : ∃ t, spec_l2SpanOk.f a b = some t := by
  unfold spec_l2SpanOk.f
  obtain ⟨t1, h1⟩ := time_some a
  obtain ⟨t2, h2⟩ := time_some b
  rw [h1, h2]
  cases t1 <;> cases t2 <;> exact ⟨_, rfl⟩
theorem both (a b c d : Int) : ∃ r1 r2 r3, spec_Overlap.f a b c d = some (r1, r2, r3) ∧ impl_Overlap.f a b c d = some (r1, r2, r3) := by
  unfold spec_Overlap.f impl_Overlap.f
  rw [ok_eq, ok_eq]
  obtain ⟨t1, h1⟩ := ok_some a b
  obtain ⟨t2, h2⟩ := ok_some c d
  rw [h1, h2]
  cases t1
  · exact ⟨_, _, _, rfl, rfl⟩
  · cases t2
    · exact ⟨_, _, _, rfl, rfl⟩
    · simp only [Option.bind_some, if_true]
      split
      · exact ⟨_, _, _, rfl, rfl⟩
      · exact ⟨_, _, _, rfl, rfl⟩
theorem eq_self (a b : Int) : laws_eqSpan.f a b a b = some true := by unfold laws_eqSpan.f; rw [if_pos rfl, if_pos rfl]

set_option maxHeartbeats 8000000 in
theorem lawOverlap (a b c d : Int) (w : World) : Calls Try.prog 7 #[sp a b, sp c d] w fun e w' => e = .returned (.bool true) ∧ Below w.heap.size w w' := by
  obtain ⟨r1, r2, r3, hs0, hi0⟩ := both a b c d
  have hs := Lib.hid hs0
  have hi := Lib.hid hi0
  clear hs0 hi0
  go_enter Try.func7, Try.ntmps7
  go_wp2
  have H0 : ((w.alloc (cells2 a b 44)).alloc (cells2 c d 44)).heap[w.heap.size]? = some (cells2 a b 44) := row_alloc (heap_alloc_new _ _)
  have H1 : ((w.alloc (cells2 a b 44)).alloc (cells2 c d 44)).heap[w.heap.size + 1]? = some (cells2 c d 44) := heap_alloc2_new _ _ _
  have HB := Joins.below_alloc2 w (cells2 a b 44) (cells2 c d 44)
  obtain ⟨o1, o2, o3, h2, h3, h4, h5⟩ := SS H0 H1 HB
  generalize (w.alloc (Obj.cells #[Value.int IntKind.i64 a, Value.int IntKind.i64 b] 44)).alloc (Obj.cells #[Value.int IntKind.i64 c, Value.int IntKind.i64 d] 44) = w1 at *
  refine Code.wp_mono (Q := fun e a' w' => ∃ (g : Nat), e = .normal ∧ a' = { tmps := #[sp a b, sp c d, .pointer (some ⟨w.heap.size, 0, none⟩), .pointer (some ⟨w.heap.size + 1, 0, none⟩), .bool false, .pointer (some ⟨g, 0, none⟩), .bool r3, undef, undef, .tuple #[sp r1 r2, .bool r3], sp a b, sp a b, sp c d, sp c d, .tuple #[sp r1 r2, .bool r3], sp r1 r2, .bool r3, undef, undef, undef, undef, undef, undef, undef, undef, undef, undef, undef, undef, undef, undef, undef, undef, undef], defers := [] } ∧ w'.heap[w.heap.size]? = some (cells2 a b 44) ∧ w'.heap[w.heap.size + 1]? = some (cells2 c d 44) ∧ Below w.heap.size w w' ∧ w'.heap[g]? = some (cells2 r1 r2 45)) ?mono ?reg
  case reg =>
    go_region_held3 (fun v => v.heap[w.heap.size]? = some (cells2 a b 44) ∧ v.heap[w.heap.size + 1]? = some (cells2 c d 44) ∧ Below w.heap.size w (v) ∧ v.cell? ⟨w.heap.size, 0, none⟩ = some (.int .i64 a) ∧ v.cell? ⟨w.heap.size, 1, none⟩ = some (.int .i64 b) ∧ v.cell? ⟨w.heap.size + 1, 0, none⟩ = some (.int .i64 c) ∧ v.cell? ⟨w.heap.size + 1, 1, none⟩ = some (.int .i64 d)) (first | exact SS (by assumption) (by assumption) (by assumption) | exact SS (by assumption) (by assumption) (Below.drew (by assumption)) | exact SS (row_alloc (by assumption)) (row_alloc (by assumption)) (balloc (by assumption) _) | exact SS (row_alloc (by assumption)) (row_alloc (by assumption)) (Below.drew (balloc (by assumption) _)) | exact SSs (by assumption) (by assumption) (by assumption) (row_lt (by assumption)) _ _ | go_keep) (first | (go_at_call 24; refine (laws_toSpan.calls _ _ _ _ _ rfl).mono ?_; rintro e w' ⟨rfl, hb⟩; have k0 := keep_row (g := w.heap.size) (o := cells2 a b 44) (by first | assumption | exact row_alloc (by assumption)) hb; have k1 := keep_row (g := w.heap.size + 1) (o := cells2 c d 44) (by first | assumption | exact row_alloc (by assumption)) hb; have kb : Below w.heap.size w w' := step (by first | assumption | exact Below.drew (by assumption) | exact balloc (by assumption) _ | exact balloc (Below.drew (by assumption)) _) hb; (try (have kn := keep_row (by first | exact heap_alloc_new _ _ | exact kn) hb; have n0 := row_cell kn 0; have n1 := row_cell kn 1; have f0 := row_frozen kn 0; have f1 := row_frozen kn 1; have l0 := row_lt kn)); clear hb) | (go_at_call 23; refine (spec_Overlap.calls _ _ _ _ _ _ _ _ hs.out).mono ?_; rintro e w' ⟨rfl, hb⟩; have k0 := keep_row (g := w.heap.size) (o := cells2 a b 44) (by first | assumption | exact row_alloc (by assumption)) hb; have k1 := keep_row (g := w.heap.size + 1) (o := cells2 c d 44) (by first | assumption | exact row_alloc (by assumption)) hb; have kb : Below w.heap.size w w' := step (by first | assumption | exact Below.drew (by assumption) | exact balloc (by assumption) _ | exact balloc (Below.drew (by assumption)) _) hb; (try (have kn := keep_row (by first | exact heap_alloc_new _ _ | exact kn) hb; have n0 := row_cell kn 0; have n1 := row_cell kn 1; have f0 := row_frozen kn 0; have f1 := row_frozen kn 1; have l0 := row_lt kn)); clear hb))
    all_goals first | exact ⟨_, rfl, rfl, row_alloc k0, row_alloc k1, balloc kb _, heap_alloc_new _ _⟩ | exact ⟨_, rfl, rfl, (SSs k0 k1 kb (row_lt (by assumption)) _ _).1, (SSs k0 k1 kb (row_lt (by assumption)) _ _).2.1, (SSs k0 k1 kb (row_lt (by assumption)) _ _).2.2.1, row_put2 kn⟩
  case mono =>
    rename_i Q' K aK
    rintro e a' w2 ⟨g, rfl, rfl, k0, k1, kb, kg⟩
    refine aK _ _ ?_
    clear aK H0 H1 HB o1 o2 o3 h2 h3 h4 h5
    go_wp2
    obtain ⟨o1, o2, o3, o4, h2, h3, h4, h5⟩ := S3 k0 k1 kb kg
    refine Code.wp_mono (Q := fun e a' w' => ∃ (g' : Nat), e = .normal ∧ a' = { tmps := #[sp a b, sp c d, .pointer (some ⟨w.heap.size, 0, none⟩), .pointer (some ⟨w.heap.size + 1, 0, none⟩), .bool false, .pointer (some ⟨g, 0, none⟩), .bool r3, .pointer (some ⟨g', 0, none⟩), .bool r3, .tuple #[sp r1 r2, .bool r3], sp a b, sp a b, sp c d, sp c d, .tuple #[sp r1 r2, .bool r3], sp r1 r2, .bool r3, .tuple #[sp r1 r2, .bool r3], sp a b, sp a b, sp c d, sp c d, .tuple #[sp r1 r2, .bool r3], sp r1 r2, .bool r3, undef, undef, undef, undef, undef, undef, undef, undef, undef], defers := [] } ∧ Below w.heap.size w w' ∧ w'.heap[g]? = some (cells2 r1 r2 45) ∧ w'.heap[g']? = some (cells2 r1 r2 45)) ?mono ?reg
    case reg =>
      go_region_held3 (fun v => v.heap[w.heap.size]? = some (cells2 a b 44) ∧ v.heap[w.heap.size + 1]? = some (cells2 c d 44) ∧ Below w.heap.size w (v) ∧ v.heap[g]? = some (cells2 r1 r2 45) ∧ v.cell? ⟨w.heap.size, 0, none⟩ = some (.int .i64 a) ∧ v.cell? ⟨w.heap.size, 1, none⟩ = some (.int .i64 b) ∧ v.cell? ⟨w.heap.size + 1, 0, none⟩ = some (.int .i64 c) ∧ v.cell? ⟨w.heap.size + 1, 1, none⟩ = some (.int .i64 d)) (first | exact S3 (by assumption) (by assumption) (by assumption) (by assumption) | exact S3 (by assumption) (by assumption) (Below.drew (by assumption)) (by assumption) | exact S3 (row_alloc (by assumption)) (row_alloc (by assumption)) (balloc (by assumption) _) (row_alloc (by assumption)) | exact S3 (row_alloc (by assumption)) (row_alloc (by assumption)) (Below.drew (balloc (by assumption) _)) (row_alloc (by assumption)) | exact S3s (by assumption) (by assumption) (by assumption) (by assumption) (row_lt (by assumption)) (row_lt (by assumption)) _ _ | go_keep) (first | (go_at_call 24; refine (laws_toSpan.calls _ _ _ _ _ rfl).mono ?_; rintro e w' ⟨rfl, hb⟩; have k0 := keep_row (g := w.heap.size) (o := cells2 a b 44) (by first | assumption | exact row_alloc (by assumption)) hb; have k1 := keep_row (g := w.heap.size + 1) (o := cells2 c d 44) (by first | assumption | exact row_alloc (by assumption)) hb; have kb : Below w.heap.size w w' := step (by first | assumption | exact Below.drew (by assumption) | exact balloc (by assumption) _ | exact balloc (Below.drew (by assumption)) _) hb; (try (have kn := keep_row (by first | exact heap_alloc_new _ _ | exact kn) hb; have n0 := row_cell kn 0; have n1 := row_cell kn 1; have f0 := row_frozen kn 0; have f1 := row_frozen kn 1; have l0 := row_lt kn)); have k2 := keep_row (g := g) (o := cells2 r1 r2 45) (by first | assumption | exact row_alloc (by assumption)) hb; clear hb) | (go_at_call 25; refine (impl_Overlap.calls _ _ _ _ _ _ _ _ hi.out).mono ?_; rintro e w' ⟨rfl, hb⟩; have k0 := keep_row (g := w.heap.size) (o := cells2 a b 44) (by first | assumption | exact row_alloc (by assumption)) hb; have k1 := keep_row (g := w.heap.size + 1) (o := cells2 c d 44) (by first | assumption | exact row_alloc (by assumption)) hb; have kb : Below w.heap.size w w' := step (by first | assumption | exact Below.drew (by assumption) | exact balloc (by assumption) _ | exact balloc (Below.drew (by assumption)) _) hb; (try (have kn := keep_row (by first | exact heap_alloc_new _ _ | exact kn) hb; have n0 := row_cell kn 0; have n1 := row_cell kn 1; have f0 := row_frozen kn 0; have f1 := row_frozen kn 1; have l0 := row_lt kn)); have k2 := keep_row (g := g) (o := cells2 r1 r2 45) (by first | assumption | exact row_alloc (by assumption)) hb; clear hb))
      all_goals first | exact ⟨_, rfl, rfl, balloc kb _, row_alloc k2, heap_alloc_new _ _⟩ | exact ⟨_, rfl, rfl, (S3s k0 k1 kb k2 (row_lt (by assumption)) (row_lt (by assumption)) _ _).2.2.1, (S3s k0 k1 kb k2 (row_lt (by assumption)) (row_lt (by assumption)) _ _).2.2.2.1, row_put2 kn⟩
    case mono =>
      rename_i K2 aK
      rintro e a' w3 ⟨g', rfl, rfl, kb', kg', kn⟩
      refine aK _ _ ?_
      clear aK o1 o2 o3 o4 h2 h3 h4 h5 k0 k1 kb kg
      have HB := Lib.hid kb'
      clear hs hi kb'
      have c0 := row_cell kg' 0
      have c1 := row_cell kg' 1
      have d0 := row_cell kn 0
      have d1 := row_cell kn 1
      clear kg' kn
      go_wp2_with (go_at_call 26; refine (laws_eqSpan.calls _ _ _ _ true _ (eq_self _ _)).mono ?_; rintro e w' ⟨rfl, hb⟩; replace HB := Lib.hid (step HB.out hb); clear hb)
      go_ret
      exact ⟨rfl, HB.out⟩
end Go.Proofs.Ytefmhpfpknipjab.Ov
