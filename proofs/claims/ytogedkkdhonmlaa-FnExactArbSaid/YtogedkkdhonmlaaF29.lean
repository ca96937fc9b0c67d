import Derived.Test.YtogedkkdhonmlaaF0
import Derived.Test.YtogedkkdhonmlaaF61
import Derived.Test.YtogedkkdhonmlaaOwn
import Derived.Deep.QuietTactic
import Derived.BigQuiet
namespace Go.Proofs.Ytogedkkdhonmlaa.P
open Go.RowKit Go.Proofs.YtogedkkdhonmlaaW.PrintWords Go.Proofs.YtogedkkdhonmlaaW.PrintLast Go.Proofs.YtogedkkdhonmlaaW.PrintMore
attribute [local go_sem] max2_int min2_int max_two min_two max_three min_three max_four min_four
set_option linter.unusedVariables false
set_option linter.unusedSimpArgs false

-- GIVEN rounds=0 making=1 import=Derived.Test.YtogedkkdhonmlaaOwn import=Derived.Deep.QuietTactic import=Derived.BigQuiet
/-! ### impl_ValidFrame: function 29 -/
def vtop (ext : Bool) : Int := if ext = true then 536870912 else 2048
def validF (ext : Bool) (id : Int) (rtr : Bool) (dlc : Int) (n : Nat) : Bool := decide (id < vtop ext) && (decide (0 ≤ dlc) && (decide (dlc ≤ 15) && ((n : Int) == dataB rtr dlc)))
def impl_ValidFrame.f (a0_0 : Bool) (a0_1 : Int) (a0_2 : Bool) (a0_3 : Int) (l0_4 : List Int) : Option (Bool) := some (validF a0_0 a0_1 a0_2 a0_3 l0_4.length)
set_option maxHeartbeats 2000000 in
theorem impl_ValidFrame.any (a0_0 : Bool) (a0_1 : Int) (a0_2 : Bool) (a0_3 : Int) (A0_4 : Option Addr) (c0_4 n : Nat) (w : World) (hn : n ≤ 9223372036854775807) :
    Calls Try.prog 29 #[.agg #[.bool a0_0, .int .u32 a0_1, .bool a0_2, .int .i64 a0_3, .slice A0_4 n c0_4]] w fun e w' => e = .returned (.bool (validF a0_0 a0_1 a0_2 a0_3 n)) ∧ Below w.heap.size w w' := by
  obtain ⟨b1, h1⟩ : ∃ b, decide (a0_1 < vtop a0_0) = b := ⟨_, rfl⟩
  obtain ⟨b2, h2⟩ : ∃ b, decide (0 ≤ a0_3) = b := ⟨_, rfl⟩
  obtain ⟨b3, h3⟩ : ∃ b, decide (a0_3 ≤ 15) = b := ⟨_, rfl⟩
  obtain ⟨b4, h4⟩ : ∃ b, ((n : Int) == dataB a0_2 a0_3) = b := ⟨_, rfl⟩
  obtain ⟨r, hr⟩ : ∃ r, validF a0_0 a0_1 a0_2 a0_3 n = r := ⟨_, rfl⟩
  have HR : Hid ((b1 && (b2 && (b3 && b4))) = r) := by
    refine Lib.hid ?_
    rw [← hr, ← h1, ← h2, ← h3, ← h4]; rfl
  rw [hr]
  clear hr
  have e0 : vtop false = 2048 := rfl
  have e1 : vtop true = 536870912 := rfl
  cases a0_0
  all_goals (first | rw [e0] at h1 | rw [e1] at h1); clear e0 e1
  all_goals cases b1
  any_goals cases b2
  any_goals cases b3
  all_goals
    go_enter Try.func29, Try.ntmps29
    go_wp2
    go_quiet ((go_at_call 61; exact Calls.quiet_of_same (impl_dataBytes.same _ _ _)))
    go_wp2
    go_ret
    exact ⟨by rw [← HR.out]; rfl, ((Below.refl _ _).alloc (Nat.le_refl _) _).trans (pw_below_drewN (Below.refl _ _) _)⟩
theorem impl_ValidFrame.calls (a0_0 : Bool) (a0_1 : Int) (a0_2 : Bool) (a0_3 : Int) (A0_4 : Option Addr) (c0_4 : Nat) (l0_4 : List Int) (r : Bool) (w : World) (hr0_4 : Kd.C (Kd.int .u8) w A0_4 l0_4.length l0_4) (hc0_4 : l0_4.length ≤ c0_4) (h : impl_ValidFrame.f a0_0 a0_1 a0_2 a0_3 l0_4 = some r) :
    Calls Try.prog 29 #[.agg #[.bool a0_0, .int .u32 a0_1, .bool a0_2, .int .i64 a0_3, .slice A0_4 l0_4.length c0_4]] w fun e w' => e = .returned (.bool r) ∧ Below w.heap.size w w' := by
  obtain rfl := Option.some.inj h
  exact impl_ValidFrame.any a0_0 a0_1 a0_2 a0_3 A0_4 c0_4 l0_4.length w hr0_4.2.1

end Go.Proofs.Ytogedkkdhonmlaa.P
