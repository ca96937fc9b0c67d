import Derived.Test.YtogedkkdhonmlaaF0
import Derived.Test.YtogedkkdhonmlaaOwn
namespace Go.Proofs.Ytogedkkdhonmlaa.P
open Go.RowKit Go.Proofs.YtogedkkdhonmlaaW.PrintWords Go.Proofs.YtogedkkdhonmlaaW.PrintLast Go.Proofs.YtogedkkdhonmlaaW.PrintMore
attribute [local go_sem] max2_int min2_int max_two min_two max_three min_three max_four min_four
set_option linter.unusedVariables false
set_option linter.unusedSimpArgs false

-- GIVEN rounds=0 making=1 import=Derived.Test.YtogedkkdhonmlaaOwn
/-! ### impl_bitText: function 47 -/
def impl_bitText.f (a0 : ByteArray) (a1 : Int) : Option (Bool) := some (decide ((a0.size : Int) ≤ a1) && isBits a0)
theorem impl_bitText.calls (a0 : ByteArray) (a1 : Int) (r : Bool) (w : World) (h : impl_bitText.f a0 a1 = some r) :
    Calls Try.prog 47 #[.string a0, .int .i64 a1] w fun e w' => e = .returned (.bool r) ∧ Below w.heap.size w w' := by
  by_cases c1 : (a0.size : Int) ≤ a1
  · have c1b : decide (a1 < (a0.size : Int)) = false := decide_eq_false (by omega)
    have hr : Hid (r = isBits a0) := by
      have h1 := Option.some.inj h
      rw [decide_eq_true c1, Bool.true_and] at h1
      exact Lib.hid h1.symm
    clear h c1
    go_enter Try.func47, Try.ntmps47
    go_wp2
    go_loopw [] (fun w' => ∃ pos : Nat, w' = w.iter a0 pos ∧ BitsTo a0 pos) (fun w' => a0.size - w'.iterPos w.heap.size)
    case atStart => exact ⟨0, rfl, bitsTo_zero a0⟩
    case round =>
      obtain ⟨pos, rfl, hb⟩ := hrel
      have HB := Lib.hid hb
      clear hb
      by_cases hp : pos < a0.size
      · cases hbit : isBit (a0[pos]'hp) with
        | true =>
          have HT : Hid (isBit (a0[pos]'hp) = true) := Lib.hid hbit
          rcases isBit_cases hbit with e | e
          · have hnx := fun ty => next_bit (P := Try.prog) w a0 pos ty hp (b := 48) (by rw [e]; rfl) (by omega)
            clear e hbit
            go_wp2
            go_roundw
            case rel => exact ⟨pos + 1, rfl, bitsTo_succ HB.out hp HT.out⟩
            case measure => simp; omega
          · have hnx := fun ty => next_bit (P := Try.prog) w a0 pos ty hp (b := 49) (by rw [e]; rfl) (by omega)
            clear e hbit
            go_wp2
            go_roundw
            case rel => exact ⟨pos + 1, rfl, bitsTo_succ HB.out hp HT.out⟩
            case measure => simp; omega
        | false =>
          have HF := Lib.hid (isBits_not a0 hp hbit)
          obtain ⟨h48, h49⟩ := decode_notBit a0 pos hp hbit
          have h48' : ((((Utf8.decode a0 pos).1 : Nat) : Int) != 48) = true := by rw [bne, h48]; rfl
          have h49' : ((((Utf8.decode a0 pos).1 : Nat) : Int) != 49) = true := by rw [bne, h49]; rfl
          have hnx := fun ty => run_next_any (P := Try.prog) w a0 pos ty hp
          clear hbit
          go_wp2
          go_ret
          exact ⟨by rw [hr.out, HF.out]; rfl, below_iter _ _ _⟩
      · have hnx := fun ty => run_next_end (P := Try.prog) w a0 pos ty hp
        have HF := Lib.hid (isBits_of a0 HB.out hp)
        go_wp2
        go_ret
        exact ⟨by rw [hr.out, HF.out]; rfl, below_iter _ _ _⟩
  · have c1b : decide (a1 < (a0.size : Int)) = true := decide_eq_true (by omega)
    have hr : r = false := by
      have h1 := Option.some.inj h
      rw [decide_eq_false c1, Bool.false_and] at h1
      exact h1.symm
    subst hr
    clear h c1
    go_enter Try.func47, Try.ntmps47
    go_wp2
    go_ret
    exact ⟨rfl, Below.refl _ _⟩

end Go.Proofs.Ytogedkkdhonmlaa.P
