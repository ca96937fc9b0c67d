/- Whether a frame is valid: the program says of every frame what the reference says, and leaves the frame as it was. -/
import Derived.Test.YtogedkkdhonmlaaBFnExactValidFrame
import Derived.Test.YtogedkkdhonmlaaMFrame
import Derived.Test.YtogedkkdhonmlaaValid
import Derived.Test.YtogedkkdhonmlaaF8
namespace Go.Proofs.Ytogedkkdhonmlaa.Pure
open Go Go.RowKit Go.Proofs.Ytogedkkdhonmlaa.P Go.Proofs.YtogedkkdhonmlaaW.PrintWords
theorem FnExactValidFrame : laws_FnExactValidFrame.PureS := by
  rintro ⟨e, i, r, d, l⟩ ⟨_, _, _, _, hl, _⟩
  refine Ev.rounds ?_
  unfold laws_FnExactValidFrame.f
  simp only [] at hl ⊢
  refine ev_some (szFrame_eq e i r d l 1048576 hl (by omega) (by omega)) ?_
  by_cases c : (1048576 : Int) < l.length
  · rw [if_pos c]; exact Ev.now _
  · rw [if_neg c]
    have hl2 : l.length ≤ 10000000 := by omega
    have ht := toFrame_ev e i r d l hl2
    refine ev_neg (by omega) (Ev.bind ht (Ev.bind (specValid_ev e i r d l) (Ev.bind ht (ev_some (b := validF e i r d l.length) rfl (ev_neg (by simp) (Ev.bind ht (Ev.bind (eqFrame_ev e i r d l hl2) (Ev.now _))))))))
end Go.Proofs.Ytogedkkdhonmlaa.Pure
