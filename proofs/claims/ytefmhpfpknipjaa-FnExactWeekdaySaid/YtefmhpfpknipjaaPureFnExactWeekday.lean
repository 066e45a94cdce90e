/- FnExactWeekday over numbers alone: the two reckonings of a weekday are one. Conditions: none. -/
import Derived.Test.YtefmhpfpknipjaaPFnExactWeekdayx1
namespace Go.Proofs.Ytefmhpfpknipjaa.Pure
open Go.RowKit Go.Proofs.Ytefmhpfpknipjaa.PFnExactWeekday Go.Proofs.YtefmhpfpknipjaaW.PrintWords Go.Proofs.YtefmhpfpknipjaaW.PrintLast

theorem FnExactWeekday : laws_FnExactWeekday.Pure := by
  intro a h
  unfold laws_FnExactWeekday.f spec_Weekday.f impl_Weekday.f spec_l2Time.f impl_isTime.f impl_in.f
  by_cases h1 : a ≥ 0
  · by_cases h2 : a ≤ 52596000 <;> simp [h1, h2]
  · simp [h1]

end Go.Proofs.Ytefmhpfpknipjaa.Pure
