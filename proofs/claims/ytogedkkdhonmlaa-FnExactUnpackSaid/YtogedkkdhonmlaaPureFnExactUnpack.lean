/- Unpacking: the program makes of every packed text the text that the reference makes, and leaves the packed text as it was. -/
import Derived.Test.YtogedkkdhonmlaaBFnExactUnpack
import Derived.Test.YtogedkkdhonmlaaMPacked
import Derived.Test.YtogedkkdhonmlaaUnpack
import Derived.Test.YtogedkkdhonmlaaF7
namespace Go.Proofs.Ytogedkkdhonmlaa.Pure
open Go Go.RowKit Go.Proofs.Ytogedkkdhonmlaa.P Go.Proofs.YtogedkkdhonmlaaW.PrintWords
theorem FnExactUnpack : laws_FnExactUnpack.PureS := by
  rintro ⟨n, l⟩ ⟨hn, hl, hw⟩
  refine Ev.rounds ?_
  unfold laws_FnExactUnpack.f
  simp only [] at hl hn hw ⊢
  have hn' : -9223372036854775808 ≤ n := by
    simp [Lit.wf, IntKind.min, IntKind.max, IntKind.signed, IntKind.bits] at hn
    omega
  refine ev_some (szPacked_eq n l 1048576 hl (by omega) (by omega)) ?_
  by_cases c : (1048576 : Int) < l.length
  · rw [if_pos c]; exact Ev.now _
  · rw [if_neg c]
    have ht := toPacked_ev n l (by omega)
    refine ev_neg (by omega) (Ev.bind ht ?_)
    exact Ev.bind (specUnpack_ev n l hw (by omega)) (Ev.bind ht (Ev.bind (implUnpack_ev n l hw hn') (ev_pos rfl (Ev.bind ht (Ev.bind (eqPacked_ev n l (by omega)) (Ev.now _))))))
end Go.Proofs.Ytogedkkdhonmlaa.Pure
