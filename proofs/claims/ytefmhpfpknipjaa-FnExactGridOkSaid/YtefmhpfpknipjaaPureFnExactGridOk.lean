/- FnExactGridOk over numbers alone: the two tests of a grid tell the same. Conditions: none. -/
import Derived.Test.YtefmhpfpknipjaaPFnExactGridOkx1
namespace Go.Proofs.Ytefmhpfpknipjaa.Pure
open Go.RowKit Go.Proofs.Ytefmhpfpknipjaa.PFnExactGridOk Go.Proofs.YtefmhpfpknipjaaW.PrintWords Go.Proofs.YtefmhpfpknipjaaW.PrintLast

theorem in_eq : impl_in.f = spec_l2In.f := by funext a b c; rfl
theorem in_some (a b c : Int) : ∃ t, spec_l2In.f a b c = some t := by unfold spec_l2In.f; split <;> exact ⟨_, rfl⟩
theorem grid_eq : impl_GridOk.f = spec_GridOk.f := by funext a b c d e; unfold impl_GridOk.f spec_GridOk.f; rw [in_eq]
theorem grid_some (a b c d e : Int) : ∃ t, spec_GridOk.f a b c d e = some t := by
  unfold spec_GridOk.f
  obtain ⟨t1, h1⟩ := in_some a 2 64
  obtain ⟨t2, h2⟩ := in_some b 2 64
  obtain ⟨t3, h3⟩ := in_some e 1 3000
  obtain ⟨t4, h4⟩ := in_some c (-9000) 9000
  obtain ⟨t5, h5⟩ := in_some d (-18000) 18000
  rw [h1, h2, h3, h4, h5]
  simp only [Option.bind_some]
  repeat (first | exact ⟨_, rfl⟩ | split)

theorem FnExactGridOk (a b c d e : Int) : laws_FnExactGridOk.f a b c d e = some true := by
  obtain ⟨t, h⟩ := grid_some a b c d e
  unfold laws_FnExactGridOk.f laws_toGrid.f
  simp only [Option.bind_some, grid_eq, h]
  cases t <;> rfl
end Go.Proofs.Ytefmhpfpknipjaa.Pure
