/-
  The units' cells out of the row's list.
  Conditions: none.
-/
import Derived.Test.YtbgacfjocjcffabDoorDc
import Derived.Test.YtbgacfjocjcffabDoorDv
namespace Go.Proofs.YtbgacfjocjcffabDoor.De
open Go Go.RowKit Go.Proofs.YtbgacfjocjcffabDoor.Dc Go.Proofs.YtbgacfjocjcffabDoor.Dv

theorem units_at (i : Int) (h0 : 0 ≤ i) (h1 : i < 15) : units[i.toNat]? = some (un i) := by
  have : i = 0 ∨ i = 1 ∨ i = 2 ∨ i = 3 ∨ i = 4 ∨ i = 5 ∨ i = 6 ∨ i = 7 ∨ i = 8 ∨ i = 9 ∨ i = 10 ∨ i = 11 ∨ i = 12 ∨ i = 13 ∨ i = 14 := by omega
  rcases this with rfl | rfl | rfl | rfl | rfl | rfl | rfl | rfl | rfl | rfl | rfl | rfl | rfl | rfl | rfl <;> rfl
theorem units_of {W : World} (h : laidMet Tryd.prog [("loop.example/g00051/impl.units", utab units)] W) : Units W := fun i h0 h1 =>
  utab_head (g := 1) (rest := []) (by kernel_rfl) (by kernel_rfl) Tryd.underlying60 Tryd.underlying59 (by kernel_rfl) (by kernel_rfl) ⟨rfl, rfl, by kernel_rfl, Tryd.underlying3⟩ ⟨rfl, rfl, by kernel_rfl, Tryd.underlying22⟩ ⟨rfl, rfl, by kernel_rfl, Tryd.underlying22⟩ h i.toNat (un i) (units_at i h0 h1)
end Go.Proofs.YtbgacfjocjcffabDoor.De
