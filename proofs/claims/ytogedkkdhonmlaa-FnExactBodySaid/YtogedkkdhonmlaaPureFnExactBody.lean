/- The body of a frame: the program's text is the reference's, and the frame stays. -/
import Derived.Test.YtogedkkdhonmlaaBFnExactBody
import Derived.Test.YtogedkkdhonmlaaMFrame
import Derived.Test.YtogedkkdhonmlaaFrame8
import Derived.Test.YtogedkkdhonmlaaF11
namespace Go.Proofs.Ytogedkkdhonmlaa.Pure
open Go Go.RowKit Go.Proofs.Ytogedkkdhonmlaa.P Go.Proofs.YtogedkkdhonmlaaW.PrintWords
set_option linter.unusedVariables false
theorem FnExactBody : laws_FnExactBody.PureS := by
  rintro ⟨e, i, r, d, l⟩ ⟨_, hi, _, _, hl, hb⟩
  have hq := frame_ok hi hb
  refine Ev.rounds ?_
  unfold laws_FnExactBody.f
  simp only [] at hl ⊢
  refine ev_some (szFrame_eq e i r d l 1048576 hl (by omega) (by omega)) ?_
  by_cases c : (1048576 : Int) < l.length
  · rw [if_pos c]; exact Ev.now _
  · rw [if_neg c]
    have hl2 : l.length ≤ 10000000 := by omega
    have ht := toFrame_ev e i r d l hl2
    have h1 : spec_Body.f e i r d l = some (bodyV e i r d l) := by unfold spec_Body.f; rw [if_pos hq]
    have h2 : impl_Body.f e i r d l = some (bodyV e i r d l) := by unfold impl_Body.f; rw [if_pos hq]
    refine ev_neg (by omega) (Ev.bind ht (ev_some h1 (Ev.bind ht (ev_some h2 (ev_pos rfl (Ev.bind ht (Ev.bind (eqFrame_ev e i r d l hl2) (Ev.now _))))))))
end Go.Proofs.Ytogedkkdhonmlaa.Pure
