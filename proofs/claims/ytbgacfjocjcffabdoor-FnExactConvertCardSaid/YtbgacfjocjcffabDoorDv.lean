/-
  What the row's list gives: the cells of the table of units.
  Conditions: none.
-/
import Derived.Test.YtbgacfjocjcffabDoorDk
namespace Go.Proofs.YtbgacfjocjcffabDoor.Dv
open Go Go.RowKit Go.Lib Go.Proofs.YtbgacfjocjcffabDoor.Dk
set_option linter.unusedVariables false
set_option linter.unusedSimpArgs false

def utab {H : Type} (zs : List (Int × Nat × Nat)) : DataW H := .agg (zs.map fun z => .agg [.lit (.int .i64 z.1), .lit (.float .f64 z.2.1), .lit (.float .f64 z.2.2)])

theorem one_int {H : Type} {enc : TypeId × Value → H} {P : Program} {w : World} {base : Nat} {sp : Nat → Bool} {held : Bool} {fuel : Nat} {t : TypeId} {seg : List Value} {j : Nat} {y : DataW H × List MemPlace} {z : Int}
    (ht : P.underlying t = some (.int .i64)) (h : DataW.trod enc P w base sp held fuel t ((seg.drop j).take 1) = some y) (hy : y.1 = .lit (.int .i64 z)) : seg[j]? = some (.int .i64 z) := by
  obtain ⟨n, hc, rfl, _⟩ := DataW.trod_int ht h
  simp only [DataW.lit.injEq, Lit.int.injEq, true_and] at hy
  subst hy
  have := congrArg (·[0]?) hc
  simpa [List.getElem?_take, List.getElem?_drop] using this
theorem one_float {H : Type} {enc : TypeId × Value → H} {P : Program} {w : World} {base : Nat} {sp : Nat → Bool} {held : Bool} {fuel : Nat} {t : TypeId} {seg : List Value} {j : Nat} {y : DataW H × List MemPlace} {z : Nat}
    (ht : P.underlying t = some (.float .f64)) (h : DataW.trod enc P w base sp held fuel t ((seg.drop j).take 1) = some y) (hy : y.1 = .lit (.float .f64 z)) : seg[j]? = some (.float .f64 z) := by
  obtain ⟨n, hc, rfl⟩ := trod_float ht h
  simp only [DataW.lit.injEq, Lit.float.injEq, true_and] at hy
  subst hy
  have := congrArg (·[0]?) hc
  simpa [List.getElem?_take, List.getElem?_drop] using this

theorem cells_of_utab {H : Type} {enc : TypeId × Value → H} {P : Program} {w : World} {base : Nat} {sp : Nat → Bool} {held : Bool} {fuel : Nat} {t e t0 t1 t2 : TypeId} {n : Nat} {cs : List Value} {zs : List (Int × Nat × Nat)} {p : List MemPlace} {f0 f1 f2 : Field}
    (ht : P.underlying t = some (.array n e)) (he : P.underlying e = some (.struct #[f0, f1, f2])) (hce : P.cellsOf e = 3) (hct : P.cellsOf t = n * 3)
    (h0 : f0.type = t0 ∧ f0.offset = 0 ∧ P.cellsOf t0 = 1 ∧ P.underlying t0 = some (.int .i64)) (h1 : f1.type = t1 ∧ f1.offset = 1 ∧ P.cellsOf t1 = 1 ∧ P.underlying t1 = some (.float .f64)) (h2 : f2.type = t2 ∧ f2.offset = 2 ∧ P.cellsOf t2 = 1 ∧ P.underlying t2 = some (.float .f64))
    (h : DataW.trod enc P w base sp held fuel t cs = some (utab zs, p)) : ∀ i z, zs[i]? = some z → cs[i * 3]? = some (.int .i64 z.1) ∧ cs[i * 3 + 1]? = some (.float .f64 z.2.1) ∧ cs[i * 3 + 2]? = some (.float .f64 z.2.2) := by
  cases fuel with
  | zero => simp [DataW.trod] at h
  | succ fuel =>
    simp only [DataW.trod, ht, hce, hct] at h
    split at h
    · rename_i hl
      obtain ⟨xs, hm, hx⟩ := Option.map_eq_some_iff.1 h
      have hxs : xs.map (·.1) = zs.map fun z => (DataW.agg [.lit (.int .i64 z.1), .lit (.float .f64 z.2.1), .lit (.float .f64 z.2.2)] : DataW H) := by
        have := congrArg Prod.fst hx
        simpa [utab] using this
      have hxl : xs.length = n := by simpa using mapM_length hm
      have hzl : zs.length = n := by
        have := congrArg List.length hxs
        simp at this
        omega
      intro i z hz
      have hi : i < n := by
        obtain ⟨hh, _⟩ := List.getElem?_eq_some_iff.1 hz
        omega
      obtain ⟨b, hb, hf⟩ := mapM_at hm i i (by simp [hi])
      have hbz : b.1 = (DataW.agg [.lit (.int .i64 z.1), .lit (.float .f64 z.2.1), .lit (.float .f64 z.2.2)] : DataW H) := by
        have h3 : (xs.map (·.1))[i]? = some b.1 := by simp [hb]
        rw [hxs] at h3
        simp [hz] at h3
        exact h3.symm
      obtain ⟨ys, m, _, hbe, hcl, hyl, hg⟩ := DataW.trod_struct he hf
      have hb1 : b.1 = .agg (ys.map (·.1)) := by rw [hbe]
      rw [hbz] at hb1
      injection hb1 with hys
      match ys, hyl, hys with
      | [y0, y1, y2], _, hys =>
        simp only [List.map_cons, List.map_nil, List.cons.injEq, and_true] at hys
        obtain ⟨e0, e1, e2⟩ := hys
        have g0 := hg 0 f0 rfl
        have g1 := hg 1 f1 rfl
        have g2 := hg 2 f2 rfl
        rw [h0.1, h0.2.1, h0.2.2.1] at g0
        rw [h1.1, h1.2.1, h1.2.2.1] at g1
        rw [h2.1, h2.2.1, h2.2.2.1] at g2
        have r0 := one_int h0.2.2.2 g0 e0.symm
        have r1 := one_float h1.2.2.2 g1 e1.symm
        have r2 := one_float h2.2.2.2 g2 e2.symm
        simp [List.getElem?_take, List.getElem?_drop] at r0 r1 r2
        exact ⟨by simpa using r0, r1, r2⟩
    · cases h

theorem utab_head {P : Program} {W : World} {name : String} {zs : List (Int × Nat × Nat)} {rest : List (String × DataW Unit)} {g : Nat} {t e t0 t1 t2 : TypeId} {n : Nat} {f0 f1 f2 : Field}
    (hg : P.globalNamed name = some g) (hty : (P.globals[g]?).map (·.type) = some t) (ht : P.underlying t = some (.array n e)) (he : P.underlying e = some (.struct #[f0, f1, f2])) (hce : P.cellsOf e = 3) (hct : P.cellsOf t = n * 3)
    (h0 : f0.type = t0 ∧ f0.offset = 0 ∧ P.cellsOf t0 = 1 ∧ P.underlying t0 = some (.int .i64)) (h1 : f1.type = t1 ∧ f1.offset = 1 ∧ P.cellsOf t1 = 1 ∧ P.underlying t1 = some (.float .f64)) (h2 : f2.type = t2 ∧ f2.offset = 2 ∧ P.cellsOf t2 = 1 ∧ P.underlying t2 = some (.float .f64))
    (h : laidMet P ((name, utab zs) :: rest) W) : ∀ i z, zs[i]? = some z → W.cell? ⟨g, i * 3, none⟩ = some (.int .i64 z.1) ∧ W.cell? ⟨g, i * 3 + 1, none⟩ = some (.float .f64 z.2.1) ∧ W.cell? ⟨g, i * 3 + 2, none⟩ = some (.float .f64 z.2.2) := by
  obtain ⟨ps, ⟨g', t', cs, fuel, p, q, hg', ht', hvar, hd, _, _⟩, _⟩ := h
  obtain rfl := Option.some.inj (hg.symm.trans hg')
  obtain rfl := Option.some.inj (hty.symm.trans ht')
  intro i z hz
  obtain ⟨r0, r1, r2⟩ := cells_of_utab ht he hce hct h0 h1 h2 hd i z hz
  exact ⟨(World.var?_cell hg hvar (i * 3)).trans (by simpa using r0), (World.var?_cell hg hvar (i * 3 + 1)).trans (by simpa using r1), (World.var?_cell hg hvar (i * 3 + 2)).trans (by simpa using r2)⟩
end Go.Proofs.YtbgacfjocjcffabDoor.Dv
