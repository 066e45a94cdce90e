/- FnExactConstants over numbers alone: each constant is what it is held against. Conditions: none. -/
import Derived.Test.YtefmhpfpknipjaaPFnExactConstantsx1
namespace Go.Proofs.Ytefmhpfpknipjaa.Pure
open Go.RowKit Go.Proofs.Ytefmhpfpknipjaa.PFnExactConstants Go.Proofs.YtefmhpfpknipjaaW.PrintWords Go.Proofs.YtefmhpfpknipjaaW.PrintLast

theorem FnExactConstants : laws_FnExactConstants.Pure := by
  unfold laws_FnExactConstants.Pure laws_FnExactConstants.f
  decide

end Go.Proofs.Ytefmhpfpknipjaa.Pure
