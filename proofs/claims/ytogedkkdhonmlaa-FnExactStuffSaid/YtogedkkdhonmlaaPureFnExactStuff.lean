/- Stuffing: the program makes of every text what the reference makes of it. -/
import Derived.Test.YtogedkkdhonmlaaF6
import Derived.Test.YtogedkkdhonmlaaStuff
namespace Go.Proofs.Ytogedkkdhonmlaa.Pure
open Go Go.RowKit Go.Proofs.Ytogedkkdhonmlaa.P Go.Proofs.YtogedkkdhonmlaaW.PrintWords Go.Proofs.YtogedkkdhonmlaaW.PrintLast
set_option linter.unusedVariables false
theorem FnExactStuff : laws_FnExactStuff.Pure := by
  intro s _
  refine Ev.rounds ?_
  unfold laws_FnExactStuff.f
  by_cases c : (s.size : Int) > 1048576
  · exact ev_pos c (Ev.now _)
  · exact ev_neg c (Ev.bind (specStuff_ev s (by omega)) (ev_some (b := stuffV s) rfl (ev_pos rfl (Ev.now _))))
end Go.Proofs.Ytogedkkdhonmlaa.Pure
