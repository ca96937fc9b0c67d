import Derived.Test.YtogedkkdhonmlaaF0
import Derived.Test.YtogedkkdhonmlaaF47
import Derived.Test.YtogedkkdhonmlaaWorld
namespace Go.Proofs.Ytogedkkdhonmlaa.P
open Go.RowKit Go.Proofs.YtogedkkdhonmlaaW.PrintWords Go.Proofs.YtogedkkdhonmlaaW.PrintLast Go.Proofs.YtogedkkdhonmlaaW.PrintMore
attribute [local go_sem] max2_int min2_int max_two min_two max_three min_three max_four min_four
set_option linter.unusedVariables false
set_option linter.unusedSimpArgs false

-- GIVEN rounds=0 making=1 import=Derived.Test.YtogedkkdhonmlaaWorld
/-! ### impl_Destuff: function 18 -/
def impl_Destuff.f (a0 : ByteArray) : Option (ByteArray × Int) := some (destuffV a0)
set_option maxHeartbeats 2000000 in
theorem impl_Destuff.yes (a0 : ByteArray) (R : List Int × Int) (w : World) (hsz : a0.size ≤ 4000) (hB0 : isBits a0 = true) (hR : destuffL (bytesOf a0) 0 0 120 [] = R) :
    Calls Try.prog 18 #[.string a0] w fun e w' => e = .returned (.tuple #[.string (strOfNums R.1), .int .i64 R.2]) ∧ Below w.heap.size w w' := by
  have hbt : Hid (impl_bitText.f a0 4000 = some true) := by
    refine Lib.hid ?_
    unfold impl_bitText.f
    rw [hB0, decide_eq_true (by omega)]; rfl
  have HB := Lib.hid hB0
  have H0 : Hid (DesAt a0 R 0 [] 0 120) := Lib.hid (hR ▸ DesAt.zero a0)
  clear hB0 hR
  go_enter Try.func18, Try.ntmps18
  go_wp2_with (go_at_call 47; refine (impl_bitText.calls _ _ true _ hbt.out).mono ?_; rintro e w1 ⟨rfl, hb1⟩; obtain ⟨w2, cap, hmk, ho2, hg2⟩ := make_R (P := Try.prog) (Kd.int .u8) w1 w.heap.size 38 5 (.int .u8 0) 1 Try.underlying38 infoU8 a0.size (by omega) (by simp only [maxLen]; omega) hb1.size; have HO2 := Lib.hid ho2; have HBL := Lib.hid (hb1.grown hg2 hb1.size (fun k hk => by cases hk)); clear ho2 hb1 hg2)
  go_loopw [4, 5, 6] (fun v3 v4 v5 wr => ∃ (pos : Nat) (out : List Int) (run last : Int), DesAt a0 R pos out run last ∧ wr.heap[w2.heap.size]? = some (.stringIter a0 pos) ∧ Aside0 (Kd.R (Kd.int .u8) 5 wr w.heap.size (fun _ => True) v3 out) ∧ Aside0 (Below w.heap.size w wr) ∧ v4 = .int .i64 run ∧ v5 = .int .i32 last) (fun _ _ _ wr => a0.size - wr.iterPos w2.heap.size)
  case atStart => exact ⟨0, [], 0, 120, H0.out, iter_new _ _ _, ⟨R_iter HO2.out a0 0⟩, ⟨HBL.out.alloc HBL.out.size _⟩, rfl, rfl⟩
  case round =>
    obtain ⟨pos, out, run, last, hst, hit, HO, HW, rfl, rfl⟩ := hrel
    have HL := Lib.hid hst.len
    have hr0 := hst.lo
    have hr1 := hst.hi
    have HSZ : Hid (w.heap.size ≤ w2.heap.size) := Lib.hid HBL.out.size
    by_cases hp : pos < a0.size
    · have hbit := isBits_at HB.out hp
      rcases isBit_cases hbit with e | e
      · have hnx := fun ty => next_bit_at (P := Try.prog) _ _ a0 pos ty hit hp (b := 48) (by rw [e]; rfl) (by omega)
        have HIT := Lib.hid hit
        have HE : Hid ((a0[pos]'hp).toNat = 48) := Lib.hid (by rw [e]; rfl)
        clear e hbit hit
        by_cases c5 : run = 5
        · subst c5
          by_cases c1 : 48 = last
          · have HS := Lib.hid (hst.stop hp HE.out c1)
            subst c1
            have hcv := own_string (P := Try.prog) Try.underlying38 Try.underlying5 Try.underlying9 (Kd.own_of_R (R_iterAt HO.out HIT.out (pos + 1)))
            clear hst
            go_wp2
            go_ret2
            exact ⟨by rw [HS.out]; rfl, (Lib.below_iterAt HW.out HSZ.out a0 (pos + 1))⟩
          · have HS := Lib.hid (hst.skip hp HE.out c1)
            have c3 : ((48 : Int) == last) = false := by rw [beq_eq_false_iff_ne]; exact c1
            clear hst c1
            go_wp2
            go_roundw
            case rel => exact ⟨pos + 1, _, _, _, HS.out, Lib.iterAt_heap _ _ a0 pos (pos + 1) HIT.out, ⟨R_iterAt HO.out HIT.out (pos + 1)⟩, ⟨(Lib.below_iterAt HW.out HSZ.out a0 (pos + 1))⟩, rfl, rfl⟩
            case measure => rw [iterPos_at (Lib.iterAt_heap _ _ a0 pos (pos + 1) HIT.out), iterPos_at HIT.out]; omega
        · have c4 : ((run : Int) == 5) = false := by rw [beq_eq_false_iff_ne]; exact c5
          by_cases c1 : 48 = last
          · have HS : Hid (DesAt a0 R (pos + 1) (out ++ [48]) (run + 1) 48) := Lib.hid (by have h := hst.step hp HE.out c5; rw [if_pos (show ((48 : Nat) : Int) = last from c1)] at h; exact h)
            subst c1
            clear hst c5
            go_wp2_with (first | (at_builtin; refine Kd.R_append (Kd.int .u8) (w0 := w) w.heap.size rfl (.tmp 43) (.tmp 46) 38 5 (.int .u8 0) 1 rfl Try.underlying38 infoU8 rfl (by decide) (by omega) _ out 48 [.int .u8 48] (fun _ => True) (fun _ => False) rfl rfl ?aP (fun _ hk => hk.elim) ?aF ?aO ?aB ?aS ?aL ?_; (case aP => exact rfl); (case aF => exact fun _ _ => trivial); (case aO => exact R_iterAt HO.out HIT.out (pos + 1)); (case aB => exact (Lib.below_iterAt HW.out HSZ.out a0 (pos + 1))); (case aS => exact (Lib.below_iterAt HW.out HSZ.out a0 (pos + 1)).size); (case aL => have := HL.out; omega); intro v1 wA ho1 hb1 hg1 hat1; have HO1 := Aside0.mk ho1; have HW1 := Aside0.mk hb1; have HIT1 := Lib.hid (iter_grown (R_iterAt HO.out HIT.out (pos + 1)) hg1 (Lib.iterAt_heap _ _ a0 pos (pos + 1) HIT.out)); clear ho1 hb1 hg1 hat1))
            go_roundw
            case rel => exact ⟨pos + 1, _, _, _, HS.out, HIT1.out, HO1, HW1, rfl, rfl⟩
            case measure => rw [iterPos_at HIT1.out, iterPos_at HIT.out]; omega
          · have HS : Hid (DesAt a0 R (pos + 1) (out ++ [48]) 1 48) := Lib.hid (by have h := hst.step hp HE.out c5; rw [if_neg (show ¬ ((48 : Nat) : Int) = last from c1)] at h; exact h)
            have c3 : ((48 : Int) == last) = false := by rw [beq_eq_false_iff_ne]; exact c1
            clear hst c1 c5
            go_wp2_with (first | (at_builtin; refine Kd.R_append (Kd.int .u8) (w0 := w) w.heap.size rfl (.tmp 43) (.tmp 46) 38 5 (.int .u8 0) 1 rfl Try.underlying38 infoU8 rfl (by decide) (by omega) _ out 48 [.int .u8 48] (fun _ => True) (fun _ => False) rfl rfl ?aP (fun _ hk => hk.elim) ?aF ?aO ?aB ?aS ?aL ?_; (case aP => exact rfl); (case aF => exact fun _ _ => trivial); (case aO => exact R_iterAt HO.out HIT.out (pos + 1)); (case aB => exact (Lib.below_iterAt HW.out HSZ.out a0 (pos + 1))); (case aS => exact (Lib.below_iterAt HW.out HSZ.out a0 (pos + 1)).size); (case aL => have := HL.out; omega); intro v1 wA ho1 hb1 hg1 hat1; have HO1 := Aside0.mk ho1; have HW1 := Aside0.mk hb1; have HIT1 := Lib.hid (iter_grown (R_iterAt HO.out HIT.out (pos + 1)) hg1 (Lib.iterAt_heap _ _ a0 pos (pos + 1) HIT.out)); clear ho1 hb1 hg1 hat1))
            go_roundw
            case rel => exact ⟨pos + 1, _, _, _, HS.out, HIT1.out, HO1, HW1, rfl, rfl⟩
            case measure => rw [iterPos_at HIT1.out, iterPos_at HIT.out]; omega
      · have hnx := fun ty => next_bit_at (P := Try.prog) _ _ a0 pos ty hit hp (b := 49) (by rw [e]; rfl) (by omega)
        have HIT := Lib.hid hit
        have HE : Hid ((a0[pos]'hp).toNat = 49) := Lib.hid (by rw [e]; rfl)
        clear e hbit hit
        by_cases c5 : run = 5
        · subst c5
          by_cases c1 : 49 = last
          · have HS := Lib.hid (hst.stop hp HE.out c1)
            subst c1
            have hcv := own_string (P := Try.prog) Try.underlying38 Try.underlying5 Try.underlying9 (Kd.own_of_R (R_iterAt HO.out HIT.out (pos + 1)))
            clear hst
            go_wp2
            go_ret2
            exact ⟨by rw [HS.out]; rfl, (Lib.below_iterAt HW.out HSZ.out a0 (pos + 1))⟩
          · have HS := Lib.hid (hst.skip hp HE.out c1)
            have c3 : ((49 : Int) == last) = false := by rw [beq_eq_false_iff_ne]; exact c1
            clear hst c1
            go_wp2
            go_roundw
            case rel => exact ⟨pos + 1, _, _, _, HS.out, Lib.iterAt_heap _ _ a0 pos (pos + 1) HIT.out, ⟨R_iterAt HO.out HIT.out (pos + 1)⟩, ⟨(Lib.below_iterAt HW.out HSZ.out a0 (pos + 1))⟩, rfl, rfl⟩
            case measure => rw [iterPos_at (Lib.iterAt_heap _ _ a0 pos (pos + 1) HIT.out), iterPos_at HIT.out]; omega
        · have c4 : ((run : Int) == 5) = false := by rw [beq_eq_false_iff_ne]; exact c5
          by_cases c1 : 49 = last
          · have HS : Hid (DesAt a0 R (pos + 1) (out ++ [49]) (run + 1) 49) := Lib.hid (by have h := hst.step hp HE.out c5; rw [if_pos (show ((49 : Nat) : Int) = last from c1)] at h; exact h)
            subst c1
            clear hst c5
            go_wp2_with (first | (at_builtin; refine Kd.R_append (Kd.int .u8) (w0 := w) w.heap.size rfl (.tmp 43) (.tmp 46) 38 5 (.int .u8 0) 1 rfl Try.underlying38 infoU8 rfl (by decide) (by omega) _ out 49 [.int .u8 49] (fun _ => True) (fun _ => False) rfl rfl ?aP (fun _ hk => hk.elim) ?aF ?aO ?aB ?aS ?aL ?_; (case aP => exact rfl); (case aF => exact fun _ _ => trivial); (case aO => exact R_iterAt HO.out HIT.out (pos + 1)); (case aB => exact (Lib.below_iterAt HW.out HSZ.out a0 (pos + 1))); (case aS => exact (Lib.below_iterAt HW.out HSZ.out a0 (pos + 1)).size); (case aL => have := HL.out; omega); intro v1 wA ho1 hb1 hg1 hat1; have HO1 := Aside0.mk ho1; have HW1 := Aside0.mk hb1; have HIT1 := Lib.hid (iter_grown (R_iterAt HO.out HIT.out (pos + 1)) hg1 (Lib.iterAt_heap _ _ a0 pos (pos + 1) HIT.out)); clear ho1 hb1 hg1 hat1))
            go_roundw
            case rel => exact ⟨pos + 1, _, _, _, HS.out, HIT1.out, HO1, HW1, rfl, rfl⟩
            case measure => rw [iterPos_at HIT1.out, iterPos_at HIT.out]; omega
          · have HS : Hid (DesAt a0 R (pos + 1) (out ++ [49]) 1 49) := Lib.hid (by have h := hst.step hp HE.out c5; rw [if_neg (show ¬ ((49 : Nat) : Int) = last from c1)] at h; exact h)
            have c3 : ((49 : Int) == last) = false := by rw [beq_eq_false_iff_ne]; exact c1
            clear hst c1 c5
            go_wp2_with (first | (at_builtin; refine Kd.R_append (Kd.int .u8) (w0 := w) w.heap.size rfl (.tmp 43) (.tmp 46) 38 5 (.int .u8 0) 1 rfl Try.underlying38 infoU8 rfl (by decide) (by omega) _ out 49 [.int .u8 49] (fun _ => True) (fun _ => False) rfl rfl ?aP (fun _ hk => hk.elim) ?aF ?aO ?aB ?aS ?aL ?_; (case aP => exact rfl); (case aF => exact fun _ _ => trivial); (case aO => exact R_iterAt HO.out HIT.out (pos + 1)); (case aB => exact (Lib.below_iterAt HW.out HSZ.out a0 (pos + 1))); (case aS => exact (Lib.below_iterAt HW.out HSZ.out a0 (pos + 1)).size); (case aL => have := HL.out; omega); intro v1 wA ho1 hb1 hg1 hat1; have HO1 := Aside0.mk ho1; have HW1 := Aside0.mk hb1; have HIT1 := Lib.hid (iter_grown (R_iterAt HO.out HIT.out (pos + 1)) hg1 (Lib.iterAt_heap _ _ a0 pos (pos + 1) HIT.out)); clear ho1 hb1 hg1 hat1))
            go_roundw
            case rel => exact ⟨pos + 1, _, _, _, HS.out, HIT1.out, HO1, HW1, rfl, rfl⟩
            case measure => rw [iterPos_at HIT1.out, iterPos_at HIT.out]; omega
    · have hnx := fun ty => Lib.run_next_end_at (P := Try.prog) _ _ a0 pos ty hit hp
      have hcv := own_string (P := Try.prog) Try.underlying38 Try.underlying5 Try.underlying9 (Kd.own_of_R HO.out)
      have HS := Lib.hid (hst.over hp)
      clear hst
      go_wp2
      go_ret2
      exact ⟨by rw [HS.out]; rfl, HW.out⟩
theorem impl_Destuff.calls (a0 : ByteArray) (r1 : ByteArray) (r2 : Int) (w : World) (h : impl_Destuff.f a0 = some (r1, r2)) :
    Calls Try.prog 18 #[.string a0] w fun e w' => e = .returned (.tuple #[.string r1, .int .i64 r2]) ∧ Below w.heap.size w w' := by
  have h' : destuffV a0 = (r1, r2) := Option.some.inj h
  unfold destuffV at h'
  by_cases c : a0.size ≤ 4000 ∧ isBits a0 = true
  · rw [if_pos c] at h'
    simp only [Prod.mk.injEq] at h'
    obtain ⟨rfl, rfl⟩ := h'
    exact impl_Destuff.yes a0 _ w c.1 c.2 rfl
  · rw [if_neg c] at h'
    simp only [Prod.mk.injEq] at h'
    obtain ⟨rfl, rfl⟩ := h'
    clear h
    have hbt : Hid (impl_bitText.f a0 4000 = some false) := by
      refine Lib.hid ?_
      unfold impl_bitText.f
      congr 1
      rw [Bool.and_eq_false_iff]
      by_cases h : isBits a0 = true
      · exact .inl (decide_eq_false fun h2 => c ⟨by omega, h⟩)
      · exact .inr (by simpa using h)
    clear c
    go_enter Try.func18, Try.ntmps18
    go_wp2_with (go_at_call 47; refine (impl_bitText.calls _ _ false _ hbt.out).mono ?_; rintro e w1 ⟨rfl, hb1⟩)
    go_ret2
    exact ⟨rfl, hb1⟩

end Go.Proofs.Ytogedkkdhonmlaa.P
