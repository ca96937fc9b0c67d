import Derived.Test.YtogedkkdhonmlaaF0
import Derived.Test.YtogedkkdhonmlaaOwn
import Derived.Test.YtogedkkdhonmlaaWMore
namespace Go.Proofs.Ytogedkkdhonmlaa.P
open Go.RowKit Go.Proofs.YtogedkkdhonmlaaW.PrintWords Go.Proofs.YtogedkkdhonmlaaW.PrintLast Go.Proofs.YtogedkkdhonmlaaW.PrintMore
attribute [local go_sem] max2_int min2_int max_two min_two max_three min_three max_four min_four
set_option linter.unusedVariables false
set_option linter.unusedSimpArgs false

-- GIVEN rounds=0 making=0 import=Derived.Test.YtogedkkdhonmlaaOwn import=Derived.Test.YtogedkkdhonmlaaWMore
/-! ### impl_dataBytes: function 61 -/
def dataB (rtr : Bool) (dlc : Int) : Int := if rtr = true then 0 else (if 8 < dlc then 8 else dlc)
def impl_dataBytes.f (a0 : Bool) (a1 : Int) : Option (Int) := some (dataB a0 a1)
theorem impl_dataBytes.same (a0 : Bool) (a1 : Int) (w : World) :
    Calls Try.prog 61 #[.bool a0, .int .i64 a1] w fun e w' => e = .returned (.int .i64 (dataB a0 a1)) ∧ w' = w := by
  unfold dataB
  cases a0
  · by_cases c : 8 < a1
    · have c1 : decide (8 < a1) = true := decide_eq_true c
      go_enter Try.func61, Try.ntmps61
      go_wp2
      go_ret
      exact ⟨rfl, rfl⟩
    · have c1 : decide (8 < a1) = false := decide_eq_false c
      go_enter Try.func61, Try.ntmps61
      go_wp2
      go_ret
      exact ⟨rfl, rfl⟩
  · go_enter Try.func61, Try.ntmps61
    go_wp2
    go_ret
    exact ⟨rfl, rfl⟩
theorem impl_dataBytes.calls (a0 : Bool) (a1 : Int) (r : Int) (w : World) (h : impl_dataBytes.f a0 a1 = some r) :
    Calls Try.prog 61 #[.bool a0, .int .i64 a1] w fun e w' => e = .returned (.int .i64 r) ∧ Drawn0 w w' := by
  obtain rfl := Option.some.inj h
  exact (impl_dataBytes.same a0 a1 w).mono fun e w' ⟨he, hw⟩ => ⟨he, hw ▸ Drawn0.refl _⟩

end Go.Proofs.Ytogedkkdhonmlaa.P
