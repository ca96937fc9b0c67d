import Derived.Test.YtogedkkdhonmlaaF0
import Derived.Test.YtogedkkdhonmlaaOwn
namespace Go.Proofs.Ytogedkkdhonmlaa.P
open Go.RowKit Go.Proofs.YtogedkkdhonmlaaW.PrintWords Go.Proofs.YtogedkkdhonmlaaW.PrintLast Go.Proofs.YtogedkkdhonmlaaW.PrintMore
attribute [local go_sem] max2_int min2_int max_two min_two max_three min_three max_four min_four
set_option linter.unusedVariables false
set_option linter.unusedSimpArgs false

-- GIVEN rounds=0 making=0 import=Derived.Test.YtogedkkdhonmlaaOwn
/-! ### impl_crcBit: function 48 -/
def impl_crcBit.f (a0 : Int) (a1 : Int) : Option (Int) := some (crcI a0 a1)
theorem impl_crcBit.same (a0 : Int) (a1 : Int) (w : World) :
    Calls Try.prog 48 #[.int .i64 a0, .int .i64 a1] w fun e w' => e = .returned (.int .i64 (crcI a0 a1)) ∧ w = w' := by
  by_cases c3 : (Go.bits .xor .i64 (Go.bits .and .i64 (a0 / 16384) 1) a1) = 1
  · have c3b0 : ((Go.bits .xor .i64 (Go.bits .and .i64 (a0 / 16384) 1) a1) == 1) = true := beq_iff_eq.mpr c3
    have HC := Lib.hid c3
    clear c3
    go_enter Try.func48, Try.ntmps48
    go_wp2
    go_ret
    exact ⟨by unfold crcI; rw [if_pos HC.out]; rfl, rfl⟩
  · have c3b0 : ((Go.bits .xor .i64 (Go.bits .and .i64 (a0 / 16384) 1) a1) == 1) = false := beq_eq_false_iff_ne.mpr c3
    have HC := Lib.hid c3
    clear c3
    go_enter Try.func48, Try.ntmps48
    go_wp2
    go_ret
    exact ⟨by unfold crcI; rw [if_neg HC.out]; rfl, rfl⟩
theorem impl_crcBit.calls (a0 : Int) (a1 : Int) (r : Int) (w : World) (h : impl_crcBit.f a0 a1 = some r) :
    Calls Try.prog 48 #[.int .i64 a0, .int .i64 a1] w fun e w' => e = .returned (.int .i64 r) ∧ Drawn0 w w' := by
  obtain rfl := Option.some.inj h
  exact (impl_crcBit.same a0 a1 w).mono fun e w' ⟨he, hw⟩ => ⟨he, hw ▸ Drawn0.refl _⟩

end Go.Proofs.Ytogedkkdhonmlaa.P
