/- The constants: the program names the same numbers as the reference. -/
import Derived.Test.YtogedkkdhonmlaaF3
namespace Go.Proofs.Ytogedkkdhonmlaa.Pure
open Go.RowKit Go.Proofs.Ytogedkkdhonmlaa.P
theorem FnExactConstants : laws_FnExactConstants.Pure := by
  unfold laws_FnExactConstants.Pure laws_FnExactConstants.f
  rfl
end Go.Proofs.Ytogedkkdhonmlaa.Pure
