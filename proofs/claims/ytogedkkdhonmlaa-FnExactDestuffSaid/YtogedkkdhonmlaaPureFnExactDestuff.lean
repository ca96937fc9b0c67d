/- Taking the stuff bits out: the program says of every text what the reference says of it. -/
import Derived.Test.YtogedkkdhonmlaaF5
namespace Go.Proofs.Ytogedkkdhonmlaa.Pure
open Go Go.RowKit Go.Proofs.Ytogedkkdhonmlaa.P Go.Proofs.YtogedkkdhonmlaaW.PrintWords Go.Proofs.YtogedkkdhonmlaaW.PrintLast
theorem FnExactDestuff : laws_FnExactDestuff.Pure := by
  intro s _
  unfold laws_FnExactDestuff.f spec_Destuff.f impl_Destuff.f
  simp only [Option.bind_some, if_true]
  split <;> rfl
end Go.Proofs.Ytogedkkdhonmlaa.Pure
