/-
  What a row's list gives: the cells of a package-level table of float64.
  Conditions: none.
-/
import Derived.Test.YtbgacfjocjcffabDoorChecked
import Derived.WalkKit
import Derived.OpenShut
import Derived.LaidLaws
import Derived.ChangeArms
import Derived.Lib.LaidTab
import Derived.Deep.LoopGhost
import Derived.Deep.QuietTactic
import Derived.KernelRfl
import Derived.Lib.Hide
import Derived.Laws.FloatArith
import Derived.Laws.Cover2
import Derived.BigQuiet
import Derived.Laws.BitsAllLaws
namespace Go.Proofs.YtbgacfjocjcffabDoor.Dk
open Go Go.RowKit Go.Lib

theorem trod_float {H : Type} {enc : TypeId × Value → H} {P : Program} {w : World} {base : Nat} {spare : Nat → Bool} {held : Bool} {fuel : Nat} {t : TypeId} {cs : List Value} {x : DataW H × List MemPlace} {k : FloatKind} (ht : P.underlying t = some (.float k)) (h : DataW.trod enc P w base spare held fuel t cs = some x) : ∃ n, cs = [.float k n] ∧ x = (.lit (.float k n), []) := by
  cases fuel with
  | zero => simp [DataW.trod] at h
  | succ m =>
    match cs, h with
    | [], h => simp [DataW.trod, ht] at h
    | [v], h =>
      cases v <;> simp [DataW.trod, ht] at h
      rename_i k' b
      by_cases hk : k' = k
      · subst hk
        by_cases hw : (Lit.float k' b).wf = true
        · simp [hw] at h
          exact ⟨b, rfl, h.symm⟩
        · simp [hw] at h
      · simp [hk] at h
    | v :: u :: r, h => cases v <;> simp [DataW.trod, ht] at h

def ftab {H : Type} (zs : List Nat) : DataW H := .agg (zs.map fun z => .lit (.float .f64 z))

theorem cells_of_ftab {H : Type} {enc : TypeId × Value → H} {P : Program} {w : World} {base : Nat} {sp : Nat → Bool} {held : Bool} {fuel : Nat} {t e : TypeId} {n : Nat} {cs : List Value} {zs : List Nat} {p : List MemPlace}
    (ht : P.underlying t = some (.array n e)) (he : P.underlying e = some (.float .f64)) (hce : P.cellsOf e = 1) (hct : P.cellsOf t = n)
    (h : DataW.trod enc P w base sp held fuel t cs = some (ftab zs, p)) : cs = zs.map fun z => Value.float .f64 z := by
  cases fuel with
  | zero => simp [DataW.trod] at h
  | succ fuel =>
    simp only [DataW.trod, ht, hce, hct, Nat.mul_one] at h
    split at h
    · rename_i hl
      obtain ⟨xs, hm, hx⟩ := Option.map_eq_some_iff.1 h
      have hxs : xs.map (·.1) = zs.map fun z => (DataW.lit (.float .f64 z) : DataW H) := by
        have := congrArg Prod.fst hx
        simpa [ftab] using this
      have hxl : xs.length = n := by simpa using mapM_length hm
      have hzl : zs.length = n := by
        have := congrArg List.length hxs
        simp at this
        omega
      apply List.ext_getElem?
      intro i
      by_cases hi : i < n
      · obtain ⟨b, hb, hf⟩ := mapM_at hm i i (by simp [hi])
        obtain ⟨z, hc, rfl⟩ := trod_float he hf
        have h1 : cs[i]? = some (.float .f64 z) := by
          have := congrArg (·[0]?) hc
          simpa [List.getElem?_take, List.getElem?_drop] using this
        have h2 : (xs.map (·.1))[i]? = some (DataW.lit (.float .f64 z) : DataW H) := by simp [hb]
        rw [hxs] at h2
        simp only [List.getElem?_map, Option.map_eq_some_iff, DataW.lit.injEq, Lit.float.injEq, true_and] at h2
        obtain ⟨z', hz', rfl⟩ := h2
        simp [h1, hz']
      · rw [List.getElem?_eq_none (by omega), List.getElem?_eq_none (by simp; omega)]
    · cases h

theorem ftab_head {P : Program} {W : World} {name : String} {zs : List Nat} {rest : List (String × DataW Unit)} {g : Nat} {t e : TypeId} {n : Nat}
    (hg : P.globalNamed name = some g) (hty : (P.globals[g]?).map (·.type) = some t) (ht : P.underlying t = some (.array n e)) (he : P.underlying e = some (.float .f64)) (hce : P.cellsOf e = 1) (hct : P.cellsOf t = n)
    (h : laidMet P ((name, ftab zs) :: rest) W) : W.var? P name = some (zs.map fun z => Value.float .f64 z).toArray := by
  obtain ⟨ps, ⟨g', t', cs, fuel, p, q, hg', ht', hvar, hd, _, _⟩, _⟩ := h
  obtain rfl := Option.some.inj (hg.symm.trans hg')
  obtain rfl := Option.some.inj (hty.symm.trans ht')
  rw [hvar, ← cells_of_ftab ht he hce hct hd]

/-- What a walk reads at index i of the table. -/
theorem ftab_cell {P : Program} {W : World} {name : String} {zs : List Nat} {g : Nat} (h : W.var? P name = some (zs.map fun z => Value.float .f64 z).toArray) (hg : P.globalNamed name = some g) (i : Int) (h0 : 0 ≤ i) (h1 : i < (zs.length : Int)) :
    W.cell? ⟨g, i.toNat, none⟩ = some (.float .f64 (zs.getD i.toNat 0)) := by
  have := World.var?_cell hg h i.toNat
  have hi : i.toNat < zs.length := by omega
  simpa [List.getD, hi] using this
theorem new_cell (w : World) (zs : List Nat) (t : TypeId) (i : Int) (h0 : 0 ≤ i) (h1 : i < (zs.length : Int)) :
    (w.alloc (.cells (zs.map fun z => Value.float .f64 z).toArray t (0, 0))).cell? ⟨w.heap.size, i.toNat, none⟩ = some (.float .f64 (zs.getD i.toNat 0)) := by
  have hi : i.toNat < zs.length := by omega
  have h := heap_alloc_new w (.cells (zs.map fun z => Value.float .f64 z).toArray t (0, 0))
  unfold World.cell?
  dsimp only
  rw [h]
  simp [List.getD, hi]
theorem wrapS {x : Int} (h0 : -4611686018427387904 ≤ x) (h : x < 4611686018427387904) : wrap64 x = x := by
  unfold wrap64
  omega
end Go.Proofs.YtbgacfjocjcffabDoor.Dk
