/- The sum that the program tells of a text is the remainder of the long division that the reference tells: for every text. -/
import Derived.Test.YtogedkkdhonmlaaF4
import Derived.Test.YtogedkkdhonmlaaSpecCrc
namespace Go.Proofs.Ytogedkkdhonmlaa.Pure
open Go.RowKit Go.Proofs.Ytogedkkdhonmlaa.P Go.Proofs.YtogedkkdhonmlaaW.PrintWords Go.Proofs.YtogedkkdhonmlaaW.PrintLast
theorem FnExactCrc15 : laws_FnExactCrc15.Pure := by
  intro s _
  by_cases c : (s.size : Int) > 1048576
  · exact ⟨0, by unfold laws_FnExactCrc15.f; rw [if_pos c]⟩
  · refine Ev.rounds (Ev.congr (fun k => by unfold laws_FnExactCrc15.f; rw [if_neg c]) (Ev.bind (specCrc15_ev s (by omega)) (Ev.congr (f := fun _ => some true) (fun k => ?_) (Ev.now _))))
    unfold impl_Crc15.f
    rw [Option.bind_some, if_pos]
    unfold crcV
    by_cases h : s.size ≤ 2000 ∧ isBits s = true
    · rw [if_pos h, if_pos h, crcOf_eq s h.2]
    · rw [if_neg h, if_neg h]
end Go.Proofs.Ytogedkkdhonmlaa.Pure
