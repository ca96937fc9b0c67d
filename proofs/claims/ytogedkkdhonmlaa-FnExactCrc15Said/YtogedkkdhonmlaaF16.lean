import Derived.Test.YtogedkkdhonmlaaF0
import Derived.Test.YtogedkkdhonmlaaF47
import Derived.Test.YtogedkkdhonmlaaF48
import Derived.Test.YtogedkkdhonmlaaOwn
namespace Go.Proofs.Ytogedkkdhonmlaa.P
open Go.RowKit Go.Proofs.YtogedkkdhonmlaaW.PrintWords Go.Proofs.YtogedkkdhonmlaaW.PrintLast Go.Proofs.YtogedkkdhonmlaaW.PrintMore
attribute [local go_sem] max2_int min2_int max_two min_two max_three min_three max_four min_four
set_option linter.unusedVariables false
set_option linter.unusedSimpArgs false

-- GIVEN rounds=0 making=1 import=Derived.Test.YtogedkkdhonmlaaOwn
/-! ### impl_Crc15: function 16 -/
def impl_Crc15.f (a0 : ByteArray) : Option (Int) := some (if a0.size ≤ 2000 ∧ isBits a0 = true then crcOf a0 else -1)
theorem impl_Crc15.calls (a0 : ByteArray) (r : Int) (w : World) (h : impl_Crc15.f a0 = some r) :
    Calls Try.prog 16 #[.string a0] w fun e w' => e = .returned (.int .i64 r) ∧ Below w.heap.size w w' := by
  by_cases c : a0.size ≤ 2000 ∧ isBits a0 = true
  · have HR : Hid (r = crcOf a0) := Lib.hid ((Option.some.inj h).symm.trans (if_pos c))
    clear h
    have hbt : Hid (impl_bitText.f a0 2000 = some true) := by
      refine Lib.hid ?_
      unfold impl_bitText.f
      rw [c.2, decide_eq_true (by omega)]; rfl
    have HB := Lib.hid c.2
    clear c
    go_enter Try.func16, Try.ntmps16
    go_wp2_with (go_at_call 47; refine (impl_bitText.calls _ _ true _ hbt.out).mono ?_; rintro e w1 ⟨rfl, hb1⟩)
    have HW := Lib.hid hb1
    clear hb1
    go_loopw [3] (fun n w' => ∃ pos : Nat, w' = w1.iter a0 pos ∧ n = .int .i64 (foldTo (fun r c => crcI r (c - 48)) 0 a0 pos)) (fun _ w' => a0.size - w'.iterPos w1.heap.size)
    case atStart => exact ⟨0, rfl, by rw [foldTo_zero]⟩
    case round =>
      obtain ⟨pos, rfl, rfl⟩ := hrel
      by_cases hp : pos < a0.size
      · have hbit := isBits_at HB.out hp
        rcases isBit_cases hbit with e | e
        · have hs := Lib.hid (foldTo_succ (fun r c => crcI r (c - 48)) 0 a0 pos hp (b := 48) (by rw [e]; rfl))
          have hnx := fun ty => next_bit (P := Try.prog) w1 a0 pos ty hp (b := 48) (by rw [e]; rfl) (by omega)
          clear e hbit
          go_wp2_with (go_at_call 48; refine (impl_crcBit.same _ _ _).mono ?_; rintro e w' ⟨rfl, rfl⟩)
          go_roundw
          case rel => exact ⟨pos + 1, rfl, by rw [hs.out]; rfl⟩
          case measure => simp; omega
        · have hs := Lib.hid (foldTo_succ (fun r c => crcI r (c - 48)) 0 a0 pos hp (b := 49) (by rw [e]; rfl))
          have hnx := fun ty => next_bit (P := Try.prog) w1 a0 pos ty hp (b := 49) (by rw [e]; rfl) (by omega)
          clear e hbit
          go_wp2_with (go_at_call 48; refine (impl_crcBit.same _ _ _).mono ?_; rintro e w' ⟨rfl, rfl⟩)
          go_roundw
          case rel => exact ⟨pos + 1, rfl, by rw [hs.out]; rfl⟩
          case measure => simp; omega
      · have hnx := fun ty => run_next_end (P := Try.prog) w1 a0 pos ty hp
        have hs := Lib.hid (foldTo_end (fun r c => crcI r (c - 48)) 0 a0 pos hp)
        go_wp2
        go_ret
        exact ⟨by rw [HR.out]; unfold crcOf; rw [← hs.out]; rfl, HW.out.alloc HW.out.size _⟩
  · obtain rfl : r = -1 := (Option.some.inj h).symm.trans (if_neg c)
    clear h
    have hbt : Hid (impl_bitText.f a0 2000 = some false) := by
      refine Lib.hid ?_
      unfold impl_bitText.f
      congr 1
      rw [Bool.and_eq_false_iff]
      by_cases h : isBits a0 = true
      · exact .inl (decide_eq_false fun h2 => c ⟨by omega, h⟩)
      · exact .inr (by simpa using h)
    clear c
    go_enter Try.func16, Try.ntmps16
    go_wp2_with (go_at_call 47; refine (impl_bitText.calls _ _ false _ hbt.out).mono ?_; rintro e w1 ⟨rfl, hb1⟩)
    go_ret
    exact ⟨rfl, hb1⟩

end Go.Proofs.Ytogedkkdhonmlaa.P
