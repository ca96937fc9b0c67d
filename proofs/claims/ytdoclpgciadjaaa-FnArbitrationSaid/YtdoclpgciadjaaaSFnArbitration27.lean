/- Texts of the proof of FnArbitration, joined. -/
import Derived.Test.YtdoclpgciadjaaaSFnArbitration21
import Derived.Test.YtdoclpgciadjaaaSFnArbitration26
namespace Go.Proofs.Ytdoclpgciadjaaa.P
open Go.RowKit Go.Proofs.YtdoclpgciadjaaaW.PrintWords Go.Proofs.YtdoclpgciadjaaaW.PrintLast Go.Proofs.YtdoclpgciadjaaaW.PrintMore
set_option linter.unusedVariables false
set_option linter.unusedSimpArgs false
def impl_crcBit.f (a0 : Int) (a1 : Int) : Option (Int) := some (crcI a0 a1)
theorem impl_crcBit.same (a0 : Int) (a1 : Int) (w : World) :
    Calls Try.prog 78 #[.int .i64 a0, .int .i64 a1] w fun e w' => e = .returned (.int .i64 (crcI a0 a1)) ∧ w = w' := by
  by_cases c3 : (Go.bits .xor .i64 (Go.bits .and .i64 (a0 / 16384) 1) a1) = 1
  · have c3b0 : ((Go.bits .xor .i64 (Go.bits .and .i64 (a0 / 16384) 1) a1) == 1) = true := beq_iff_eq.mpr c3
    have HC := Lib.hid c3
    clear c3
    go_enter Try.func78, Try.ntmps78
    go_wp2
    go_ret
    exact ⟨by unfold crcI; rw [if_pos HC.out]; rfl, rfl⟩
  · have c3b0 : ((Go.bits .xor .i64 (Go.bits .and .i64 (a0 / 16384) 1) a1) == 1) = false := beq_eq_false_iff_ne.mpr c3
    have HC := Lib.hid c3
    clear c3
    go_enter Try.func78, Try.ntmps78
    go_wp2
    go_ret
    exact ⟨by unfold crcI; rw [if_neg HC.out]; rfl, rfl⟩
theorem impl_crcBit.calls (a0 : Int) (a1 : Int) (r : Int) (w : World) (h : impl_crcBit.f a0 a1 = some r) :
    Calls Try.prog 78 #[.int .i64 a0, .int .i64 a1] w fun e w' => e = .returned (.int .i64 r) ∧ Drawn0 w w' := by
  obtain rfl := Option.some.inj h
  exact (impl_crcBit.same a0 a1 w).mono fun e w' ⟨he, hw⟩ => ⟨he, hw ▸ Drawn0.refl _⟩
end Go.Proofs.Ytdoclpgciadjaaa.P

namespace Go.Proofs.Ytdoclpgciadjaaa.P
open Go.RowKit Go.Proofs.YtdoclpgciadjaaaW.PrintWords Go.Proofs.YtdoclpgciadjaaaW.PrintLast Go.Proofs.YtdoclpgciadjaaaW.PrintMore
set_option linter.unusedVariables false
set_option linter.unusedSimpArgs false
def impl_Crc15.f (a0 : ByteArray) : Option (Int) := some (if a0.size ≤ 2000 ∧ isBits a0 = true then crcOf a0 else -1)
theorem impl_Crc15.calls (a0 : ByteArray) (r : Int) (w : World) (h : impl_Crc15.f a0 = some r) :
    Calls Try.prog 17 #[.string a0] w fun e w' => e = .returned (.int .i64 r) ∧ Below w.heap.size w w' := by
  by_cases c : a0.size ≤ 2000 ∧ isBits a0 = true
  · have HR : Hid (r = crcOf a0) := Lib.hid ((Option.some.inj h).symm.trans (if_pos c))
    clear h
    have hbt : Hid (impl_bitText.f a0 2000 = some true) := by
      refine Lib.hid ?_
      unfold impl_bitText.f
      rw [c.2, decide_eq_true (by omega)]; rfl
    have HB := Lib.hid c.2
    clear c
    go_enter Try.func17, Try.ntmps17
    go_wp2_with (go_at_call 77; refine (impl_bitText.calls _ _ true _ hbt.out).mono ?_; rintro e w1 ⟨rfl, hb1⟩)
    have HW := Lib.hid hb1
    clear hb1
    go_loopw [3] (fun n w' => ∃ pos : Nat, w' = w1.iter a0 pos ∧ n = .int .i64 (foldTo (fun r c => crcI r (c - 48)) 0 a0 pos)) (fun _ w' => a0.size - w'.iterPos w1.heap.size)
    case atStart => exact ⟨0, rfl, by rw [foldTo_zero]⟩
    case round =>
      obtain ⟨pos, rfl, rfl⟩ := hrel
      by_cases hp : pos < a0.size
      · have hbit := isBits_at HB.out hp
        rcases isBit_cases hbit with e | e
        · have hs := Lib.hid (foldTo_succ (fun r c => crcI r (c - 48)) 0 a0 pos hp (b := 48) (by rw [e]; rfl))
          have hnx := fun ty => next_bit (P := Try.prog) w1 a0 pos ty hp (b := 48) (by rw [e]; rfl) (by omega)
          clear e hbit
          go_wp2_with (go_at_call 78; refine (impl_crcBit.same _ _ _).mono ?_; rintro e w' ⟨rfl, rfl⟩)
          go_roundw
          case rel => exact ⟨pos + 1, rfl, by rw [hs.out]; rfl⟩
          case measure => simp; omega
        · have hs := Lib.hid (foldTo_succ (fun r c => crcI r (c - 48)) 0 a0 pos hp (b := 49) (by rw [e]; rfl))
          have hnx := fun ty => next_bit (P := Try.prog) w1 a0 pos ty hp (b := 49) (by rw [e]; rfl) (by omega)
          clear e hbit
          go_wp2_with (go_at_call 78; refine (impl_crcBit.same _ _ _).mono ?_; rintro e w' ⟨rfl, rfl⟩)
          go_roundw
          case rel => exact ⟨pos + 1, rfl, by rw [hs.out]; rfl⟩
          case measure => simp; omega
      · have hnx := fun ty => run_next_end (P := Try.prog) w1 a0 pos ty hp
        have hs := Lib.hid (foldTo_end (fun r c => crcI r (c - 48)) 0 a0 pos hp)
        go_wp2
        go_ret
        exact ⟨by rw [HR.out]; unfold crcOf; rw [← hs.out]; rfl, HW.out.alloc HW.out.size _⟩
  · obtain rfl : r = -1 := (Option.some.inj h).symm.trans (if_neg c)
    clear h
    have hbt : Hid (impl_bitText.f a0 2000 = some false) := by
      refine Lib.hid ?_
      unfold impl_bitText.f
      congr 1
      rw [Bool.and_eq_false_iff]
      by_cases h : isBits a0 = true
      · exact .inl (decide_eq_false fun h2 => c ⟨by omega, h⟩)
      · exact .inr (by simpa using h)
    clear c
    go_enter Try.func17, Try.ntmps17
    go_wp2_with (go_at_call 77; refine (impl_bitText.calls _ _ false _ hbt.out).mono ?_; rintro e w1 ⟨rfl, hb1⟩)
    go_ret
    exact ⟨rfl, hb1⟩
end Go.Proofs.Ytdoclpgciadjaaa.P

namespace Go.Proofs.Ytdoclpgciadjaaa.P
open Go.RowKit Go.Proofs.YtdoclpgciadjaaaW.PrintWords Go.Proofs.YtdoclpgciadjaaaW.PrintLast Go.Proofs.YtdoclpgciadjaaaW.PrintMore
set_option linter.unusedVariables false
set_option linter.unusedSimpArgs false
def impl_Stuff.f (a0 : ByteArray) : Option (ByteArray) := some (if a0.size ≤ 2000 ∧ isBits a0 = true then strOfNums (stuffL (bytesOf a0)) else ⟨#[]⟩)
structure StuffAt (s : ByteArray) (pos : Nat) (out : List Int) (run last : Int) : Prop where mk :: (out : stuffTo s pos = (out, run, last))
theorem StuffAt.bounds {s : ByteArray} {pos : Nat} {out : List Int} {run last : Int} (h : StuffAt s pos out run last) : out.length ≤ 2 * pos ∧ 0 ≤ run ∧ run ≤ pos := by
  have := stuffTo_bounds s pos
  rw [h.out] at this
  exact this
set_option maxHeartbeats 2000000 in
theorem impl_Stuff.yes (a0 : ByteArray) (w : World) (hsz : a0.size ≤ 2000) (hB0 : isBits a0 = true) :
    Calls Try.prog 20 #[.string a0] w fun e w' => e = .returned (.string (strOfNums (stuffL (bytesOf a0)))) ∧ Below w.heap.size w w' := by
  have hbt : Hid (impl_bitText.f a0 2000 = some true) := by
    refine Lib.hid ?_
    unfold impl_bitText.f
    rw [hB0, decide_eq_true (by omega)]; rfl
  have HB := Lib.hid hB0
  clear hB0
  have hcap : ((a0.size * 5 / 4 + 1 : Nat) : Int) = (a0.size : Int) * 5 / 4 + 1 := by omega
  go_enter Try.func20, Try.ntmps20
  go_wp2_with (go_at_call 77; refine (impl_bitText.calls _ _ true _ hbt.out).mono ?_; rintro e w1 ⟨rfl, hb1⟩; obtain ⟨w2, cap, hmk, ho2, hg2⟩ := make_R (P := Try.prog) (Kd.int .u8) w1 w.heap.size 22 5 (.int .u8 0) 1 Try.underlying22 infoU8 (a0.size * 5 / 4 + 1) (by omega) (by simp only [maxLen]; omega) hb1.size; rw [hcap] at hmk; have HO2 := Lib.hid ho2; have HBL := Lib.hid (hb1.grown hg2 hb1.size (fun k hk => by cases hk)); clear ho2 hb1 hg2 hcap)
  go_loopw [3, 4, 5] (fun v3 v4 v5 wr => ∃ (pos : Nat) (out : List Int) (run last : Int), StuffAt a0 pos out run last ∧ wr.heap[w2.heap.size]? = some (.stringIter a0 pos) ∧ Aside0 (Kd.R (Kd.int .u8) 5 wr w.heap.size (fun _ => True) v3 out) ∧ Aside0 (Below w.heap.size w wr) ∧ v4 = .int .i64 run ∧ v5 = .int .i32 last) (fun _ _ _ wr => a0.size - wr.iterPos w2.heap.size)
  case atStart => exact ⟨0, [], 0, 120, ⟨stuffTo_zero a0⟩, iter_new _ _ _, ⟨R_iter HO2.out a0 0⟩, ⟨HBL.out.alloc HBL.out.size _⟩, rfl, rfl⟩
  case round =>
    obtain ⟨pos, out, run, last, hst, hit, HO, HW, rfl, rfl⟩ := hrel
    obtain ⟨hl, hr0, hr1⟩ := hst.bounds
    by_cases hp : pos < a0.size
    · have hbit := isBits_at HB.out hp
      have HSZ : Hid (w.heap.size ≤ w2.heap.size) := Lib.hid HBL.out.size
      rcases isBit_cases hbit with e | e
      · have hnx := fun ty => next_bit_at (P := Try.prog) _ _ a0 pos ty hit hp (b := 48) (by rw [e]; rfl) (by omega)
        have hst' := stuffTo_succ a0 pos hp (b := 48) (by rw [e]; rfl)
        rw [hst.out] at hst'
        have HIT := Lib.hid hit
        clear e hbit hit
        by_cases c1 : 48 = last
        · subst c1
          by_cases c2 : run = 4
          · subst c2
            have HS := Aside0.mk (show StuffAt a0 (pos + 1) (out ++ [48] ++ [49]) 1 49 from ⟨hst'⟩)
            clear hst' hst
            go_wp2_with (first | (at_builtin; refine Kd.R_append (Kd.int .u8) (w0 := w) w.heap.size rfl (.tmp 28) (.tmp 31) 22 5 (.int .u8 0) 1 rfl Try.underlying22 infoU8 rfl (by decide) (by omega) _ out 48 [.int .u8 48] (fun _ => True) (fun _ => False) rfl rfl ?aP (fun _ hk => hk.elim) ?aF ?aO ?aB ?aS ?aL ?_; (case aP => exact rfl); (case aF => exact fun _ _ => trivial); (case aO => exact R_iterAt HO.out HIT.out (pos + 1)); (case aB => exact (Lib.below_iterAt HW.out HSZ.out a0 (pos + 1))); (case aS => exact (Lib.below_iterAt HW.out HSZ.out a0 (pos + 1)).size); (case aL => simp; omega); intro v1 wA ho1 hb1 hg1 hat1; have HO1 := Aside0.mk ho1; have HW1 := Aside0.mk hb1; have HIT1 := Lib.hid (iter_grown (R_iterAt HO.out HIT.out (pos + 1)) hg1 (Lib.iterAt_heap _ _ a0 pos (pos + 1) HIT.out)); clear ho1 hb1 hg1 hat1) | (at_builtin; refine Kd.R_append (Kd.int .u8) (w0 := w) w.heap.size rfl (.tmp 37) (.tmp 40) 22 5 (.int .u8 0) 1 rfl Try.underlying22 infoU8 rfl (by decide) (by omega) _ (out ++ [48]) 49 [.int .u8 49] (fun _ => True) (fun _ => False) rfl rfl ?aP (fun _ hk => hk.elim) ?aF ?aO ?aB ?aS ?aL ?_; (case aP => exact rfl); (case aF => exact fun _ _ => trivial); (case aO => exact HO1.out); (case aB => exact HW1.out); (case aS => exact HW1.out.size); (case aL => simp; omega); intro v2 wB ho2 hb2 hg2 hat2; have HO2' := Aside0.mk ho2; have HW2 := Aside0.mk hb2; have HIT2 := Lib.hid (iter_grown HO1.out hg2 HIT1.out); clear ho2 hb2 hg2 hat2))
            go_roundw
            case rel => exact ⟨pos + 1, _, _, _, HS.out, HIT2.out, HO2', HW2, rfl, rfl⟩
            case measure => rw [iterPos_at HIT2.out, iterPos_at HIT.out]; omega
          · have HS := Aside0.mk (show StuffAt a0 (pos + 1) (out ++ [48]) (run + 1) 48 from ⟨hst'.trans (if_neg (by simp; omega))⟩)
            have c3 : ((run + 1 : Int) == 5) = false := by rw [beq_eq_false_iff_ne]; omega
            clear hst' hst c2
            go_wp2_with (first | (at_builtin; refine Kd.R_append (Kd.int .u8) (w0 := w) w.heap.size rfl (.tmp 28) (.tmp 31) 22 5 (.int .u8 0) 1 rfl Try.underlying22 infoU8 rfl (by decide) (by omega) _ out 48 [.int .u8 48] (fun _ => True) (fun _ => False) rfl rfl ?aP (fun _ hk => hk.elim) ?aF ?aO ?aB ?aS ?aL ?_; (case aP => exact rfl); (case aF => exact fun _ _ => trivial); (case aO => exact R_iterAt HO.out HIT.out (pos + 1)); (case aB => exact (Lib.below_iterAt HW.out HSZ.out a0 (pos + 1))); (case aS => exact (Lib.below_iterAt HW.out HSZ.out a0 (pos + 1)).size); (case aL => simp; omega); intro v1 wA ho1 hb1 hg1 hat1; have HO1 := Aside0.mk ho1; have HW1 := Aside0.mk hb1; have HIT1 := Lib.hid (iter_grown (R_iterAt HO.out HIT.out (pos + 1)) hg1 (Lib.iterAt_heap _ _ a0 pos (pos + 1) HIT.out)); clear ho1 hb1 hg1 hat1))
            go_roundw
            case rel => exact ⟨pos + 1, _, _, _, HS.out, HIT1.out, HO1, HW1, rfl, rfl⟩
            case measure => rw [iterPos_at HIT1.out, iterPos_at HIT.out]; omega
        · have HS := Aside0.mk (show StuffAt a0 (pos + 1) (out ++ [48]) 1 48 from ⟨by rw [hst']; unfold stuffStep; simp only []; rw [if_neg (show ¬ ((48 : Nat) : Int) = last from c1), if_neg (by decide)]; rfl⟩)
          have c3 : ((48 : Int) == last) = false := by rw [beq_eq_false_iff_ne]; exact c1
          clear hst' hst c1
          go_wp2_with (first | (at_builtin; refine Kd.R_append (Kd.int .u8) (w0 := w) w.heap.size rfl (.tmp 28) (.tmp 31) 22 5 (.int .u8 0) 1 rfl Try.underlying22 infoU8 rfl (by decide) (by omega) _ out 48 [.int .u8 48] (fun _ => True) (fun _ => False) rfl rfl ?aP (fun _ hk => hk.elim) ?aF ?aO ?aB ?aS ?aL ?_; (case aP => exact rfl); (case aF => exact fun _ _ => trivial); (case aO => exact R_iterAt HO.out HIT.out (pos + 1)); (case aB => exact (Lib.below_iterAt HW.out HSZ.out a0 (pos + 1))); (case aS => exact (Lib.below_iterAt HW.out HSZ.out a0 (pos + 1)).size); (case aL => simp; omega); intro v1 wA ho1 hb1 hg1 hat1; have HO1 := Aside0.mk ho1; have HW1 := Aside0.mk hb1; have HIT1 := Lib.hid (iter_grown (R_iterAt HO.out HIT.out (pos + 1)) hg1 (Lib.iterAt_heap _ _ a0 pos (pos + 1) HIT.out)); clear ho1 hb1 hg1 hat1))
          go_roundw
          case rel => exact ⟨pos + 1, _, _, _, HS.out, HIT1.out, HO1, HW1, rfl, rfl⟩
          case measure => rw [iterPos_at HIT1.out, iterPos_at HIT.out]; omega
      · have hnx := fun ty => next_bit_at (P := Try.prog) _ _ a0 pos ty hit hp (b := 49) (by rw [e]; rfl) (by omega)
        have hst' := stuffTo_succ a0 pos hp (b := 49) (by rw [e]; rfl)
        rw [hst.out] at hst'
        have HIT := Lib.hid hit
        clear e hbit hit
        by_cases c1 : 49 = last
        · subst c1
          by_cases c2 : run = 4
          · subst c2
            have HS := Aside0.mk (show StuffAt a0 (pos + 1) (out ++ [49] ++ [48]) 1 48 from ⟨hst'⟩)
            clear hst' hst
            go_wp2_with (first | (at_builtin; refine Kd.R_append (Kd.int .u8) (w0 := w) w.heap.size rfl (.tmp 28) (.tmp 31) 22 5 (.int .u8 0) 1 rfl Try.underlying22 infoU8 rfl (by decide) (by omega) _ out 49 [.int .u8 49] (fun _ => True) (fun _ => False) rfl rfl ?aP (fun _ hk => hk.elim) ?aF ?aO ?aB ?aS ?aL ?_; (case aP => exact rfl); (case aF => exact fun _ _ => trivial); (case aO => exact R_iterAt HO.out HIT.out (pos + 1)); (case aB => exact (Lib.below_iterAt HW.out HSZ.out a0 (pos + 1))); (case aS => exact (Lib.below_iterAt HW.out HSZ.out a0 (pos + 1)).size); (case aL => simp; omega); intro v1 wA ho1 hb1 hg1 hat1; have HO1 := Aside0.mk ho1; have HW1 := Aside0.mk hb1; have HIT1 := Lib.hid (iter_grown (R_iterAt HO.out HIT.out (pos + 1)) hg1 (Lib.iterAt_heap _ _ a0 pos (pos + 1) HIT.out)); clear ho1 hb1 hg1 hat1) | (at_builtin; refine Kd.R_append (Kd.int .u8) (w0 := w) w.heap.size rfl (.tmp 37) (.tmp 40) 22 5 (.int .u8 0) 1 rfl Try.underlying22 infoU8 rfl (by decide) (by omega) _ (out ++ [49]) 48 [.int .u8 48] (fun _ => True) (fun _ => False) rfl rfl ?aP (fun _ hk => hk.elim) ?aF ?aO ?aB ?aS ?aL ?_; (case aP => exact rfl); (case aF => exact fun _ _ => trivial); (case aO => exact HO1.out); (case aB => exact HW1.out); (case aS => exact HW1.out.size); (case aL => simp; omega); intro v2 wB ho2 hb2 hg2 hat2; have HO2' := Aside0.mk ho2; have HW2 := Aside0.mk hb2; have HIT2 := Lib.hid (iter_grown HO1.out hg2 HIT1.out); clear ho2 hb2 hg2 hat2))
            go_roundw
            case rel => exact ⟨pos + 1, _, _, _, HS.out, HIT2.out, HO2', HW2, rfl, rfl⟩
            case measure => rw [iterPos_at HIT2.out, iterPos_at HIT.out]; omega
          · have HS := Aside0.mk (show StuffAt a0 (pos + 1) (out ++ [49]) (run + 1) 49 from ⟨hst'.trans (if_neg (by simp; omega))⟩)
            have c3 : ((run + 1 : Int) == 5) = false := by rw [beq_eq_false_iff_ne]; omega
            clear hst' hst c2
            go_wp2_with (first | (at_builtin; refine Kd.R_append (Kd.int .u8) (w0 := w) w.heap.size rfl (.tmp 28) (.tmp 31) 22 5 (.int .u8 0) 1 rfl Try.underlying22 infoU8 rfl (by decide) (by omega) _ out 49 [.int .u8 49] (fun _ => True) (fun _ => False) rfl rfl ?aP (fun _ hk => hk.elim) ?aF ?aO ?aB ?aS ?aL ?_; (case aP => exact rfl); (case aF => exact fun _ _ => trivial); (case aO => exact R_iterAt HO.out HIT.out (pos + 1)); (case aB => exact (Lib.below_iterAt HW.out HSZ.out a0 (pos + 1))); (case aS => exact (Lib.below_iterAt HW.out HSZ.out a0 (pos + 1)).size); (case aL => simp; omega); intro v1 wA ho1 hb1 hg1 hat1; have HO1 := Aside0.mk ho1; have HW1 := Aside0.mk hb1; have HIT1 := Lib.hid (iter_grown (R_iterAt HO.out HIT.out (pos + 1)) hg1 (Lib.iterAt_heap _ _ a0 pos (pos + 1) HIT.out)); clear ho1 hb1 hg1 hat1))
            go_roundw
            case rel => exact ⟨pos + 1, _, _, _, HS.out, HIT1.out, HO1, HW1, rfl, rfl⟩
            case measure => rw [iterPos_at HIT1.out, iterPos_at HIT.out]; omega
        · have HS := Aside0.mk (show StuffAt a0 (pos + 1) (out ++ [49]) 1 49 from ⟨by rw [hst']; unfold stuffStep; simp only []; rw [if_neg (show ¬ ((49 : Nat) : Int) = last from c1), if_neg (by decide)]; rfl⟩)
          have c3 : ((49 : Int) == last) = false := by rw [beq_eq_false_iff_ne]; exact c1
          clear hst' hst c1
          go_wp2_with (first | (at_builtin; refine Kd.R_append (Kd.int .u8) (w0 := w) w.heap.size rfl (.tmp 28) (.tmp 31) 22 5 (.int .u8 0) 1 rfl Try.underlying22 infoU8 rfl (by decide) (by omega) _ out 49 [.int .u8 49] (fun _ => True) (fun _ => False) rfl rfl ?aP (fun _ hk => hk.elim) ?aF ?aO ?aB ?aS ?aL ?_; (case aP => exact rfl); (case aF => exact fun _ _ => trivial); (case aO => exact R_iterAt HO.out HIT.out (pos + 1)); (case aB => exact (Lib.below_iterAt HW.out HSZ.out a0 (pos + 1))); (case aS => exact (Lib.below_iterAt HW.out HSZ.out a0 (pos + 1)).size); (case aL => simp; omega); intro v1 wA ho1 hb1 hg1 hat1; have HO1 := Aside0.mk ho1; have HW1 := Aside0.mk hb1; have HIT1 := Lib.hid (iter_grown (R_iterAt HO.out HIT.out (pos + 1)) hg1 (Lib.iterAt_heap _ _ a0 pos (pos + 1) HIT.out)); clear ho1 hb1 hg1 hat1))
          go_roundw
          case rel => exact ⟨pos + 1, _, _, _, HS.out, HIT1.out, HO1, HW1, rfl, rfl⟩
          case measure => rw [iterPos_at HIT1.out, iterPos_at HIT.out]; omega
    · have hnx := fun ty => Lib.run_next_end_at (P := Try.prog) _ _ a0 pos ty hit hp
      have hcv := own_string (P := Try.prog) Try.underlying22 Try.underlying5 Try.underlying9 (Kd.own_of_R HO.out)
      go_wp2
      go_ret
      exact ⟨by rw [← stuffTo_end a0 pos hp, hst.out]; rfl, HW.out⟩
theorem impl_Stuff.calls (a0 : ByteArray) (r : ByteArray) (w : World) (h : impl_Stuff.f a0 = some r) :
    Calls Try.prog 20 #[.string a0] w fun e w' => e = .returned (.string r) ∧ Below w.heap.size w w' := by
  by_cases c : a0.size ≤ 2000 ∧ isBits a0 = true
  · obtain rfl : r = strOfNums (stuffL (bytesOf a0)) := (Option.some.inj h).symm.trans (if_pos c)
    exact impl_Stuff.yes a0 w c.1 c.2
  · obtain rfl : r = ⟨#[]⟩ := (Option.some.inj h).symm.trans (if_neg c)
    clear h
    have hbt : Hid (impl_bitText.f a0 2000 = some false) := by
      refine Lib.hid ?_
      unfold impl_bitText.f
      congr 1
      rw [Bool.and_eq_false_iff]
      by_cases h : isBits a0 = true
      · exact .inl (decide_eq_false fun h2 => c ⟨by omega, h⟩)
      · exact .inr (by simpa using h)
    clear c
    go_enter Try.func20, Try.ntmps20
    go_wp2_with (go_at_call 77; refine (impl_bitText.calls _ _ false _ hbt.out).mono ?_; rintro e w1 ⟨rfl, hb1⟩)
    go_ret
    exact ⟨rfl, hb1⟩
end Go.Proofs.Ytdoclpgciadjaaa.P

namespace Go.Proofs.Ytdoclpgciadjaaa.P
open Go.RowKit Go.Proofs.YtdoclpgciadjaaaW.PrintWords Go.Proofs.YtdoclpgciadjaaaW.PrintLast Go.Proofs.YtdoclpgciadjaaaW.PrintMore
set_option linter.unusedVariables false
set_option linter.unusedSimpArgs false
def encodeV (ext : Bool) (id : Int) (rtr : Bool) (dlc : Int) (data : List Int) : ByteArray := if validF ext id rtr dlc data.length = true then strOfNums (stuffL (plainL ext id rtr dlc data) ++ onesL) else ⟨#[]⟩
def impl_Encode.f (a0_0 : Bool) (a0_1 : Int) (a0_2 : Bool) (a0_3 : Int) (l0_4 : List Int) : Option (ByteArray) := if 0 ≤ a0_1 ∧ okBytes l0_4 = true then some (encodeV a0_0 a0_1 a0_2 a0_3 l0_4) else none
theorem stuff_str {l : List Int} (h : Bits l) (hl : l.length ≤ 2000) : impl_Stuff.f (strOfNums l) = some (strOfNums (stuffL l)) := by
  unfold impl_Stuff.f
  rw [if_pos ⟨by rw [strOfNums_size]; exact hl, isBits_str h⟩, bytes_str l h.range]
theorem crc15_str {l : List Int} (h : Bits l) (hl : l.length ≤ 2000) : impl_Crc15.f (strOfNums l) = some (crcL l : Int) := by
  unfold impl_Crc15.f
  rw [if_pos ⟨by rw [strOfNums_size]; exact hl, isBits_str h⟩, crcOf_str h]
theorem body_str {ext : Bool} {id : Int} {rtr : Bool} {dlc : Int} {l : List Int} (h0 : 0 ≤ id) (hb : okBytes l = true) (hv : validF ext id rtr dlc l.length = true) : impl_Body.f ext id rtr dlc l = some (strOfNums (bodyL ext id rtr dlc l)) := by
  unfold impl_Body.f bodyV
  rw [if_pos ⟨h0, hb⟩, if_pos hv]
theorem stuffL_len (l : List Int) : (stuffL l).length ≤ 2 * l.length := by
  unfold stuffL
  have key : ∀ (l : List Int) (st : List Int × Int × Int), (l.foldl stuffStep st).1.length ≤ st.1.length + 2 * l.length := by
    intro l
    induction l with
    | nil => intro st; simp
    | cons c l ih =>
      intro st
      have h1 : (stuffStep st c).1.length ≤ st.1.length + 2 := by
        unfold stuffStep
        generalize (if c = st.2.2 then st.2.1 + 1 else 1) = q
        split <;> simp
      have := ih (stuffStep st c)
      rw [List.foldl_cons, List.length_cons]
      omega
  have := key l ([], 0, 120)
  simpa using this
set_option maxHeartbeats 4000000 in
theorem impl_Encode.yes (ext : Bool) (id : Int) (rtr : Bool) (dlc : Int) (A : Option Addr) (c : Nat) (l : List Int) (w : World) (hr : Kd.C (Kd.int .u8) w A l.length l) (hc : l.length ≤ c) (h0 : 0 ≤ id) (hb : okBytes l = true) (hv : validF ext id rtr dlc l.length = true) :
    Calls Try.prog 28 #[.agg #[.bool ext, .int .u32 id, .bool rtr, .int .i64 dlc, .slice A l.length c]] w fun e w' => e = .returned (.string (strOfNums (stuffL (plainL ext id rtr dlc l) ++ onesL))) ∧ Below w.heap.size w w' := by
  have HV : Hid (impl_ValidFrame.f ext id rtr dlc l = some true) := Lib.hid (by unfold impl_ValidFrame.f; rw [hv])
  have HBD := Lib.hid (body_str h0 hb hv)
  have HR := Lib.hid hr
  have HC := Lib.hid hc
  obtain ⟨-, -, -, -, hn8⟩ := valid_parts hv
  obtain ⟨B, hB⟩ : ∃ B, bodyL ext id rtr dlc l = B := ⟨_, rfl⟩
  have HBB : Hid (Bits B ∧ B.length ≤ 103) := Lib.hid (hB ▸ ⟨bodyL_bits ext id rtr dlc l, bodyL_length ext id rtr dlc l hn8⟩)
  have HPL : Hid (plainL ext id rtr dlc l = B ++ numL (crcL B) 15) := Lib.hid (by unfold plainL; rw [hB])
  have HPB : Hid (Bits (B ++ numL (crcL B) 15) ∧ (B ++ numL (crcL B) 15).length ≤ 118) := Lib.hid (HPL.out ▸ ⟨plainL_bits ext id rtr dlc l, plainL_length ext id rtr dlc l hn8⟩)
  rw [hB] at HBD
  have HM8 : Hid (l.length ≤ 9223372036854775807) := Lib.hid hr.2.1
  clear hv hr hc hb hn8 h0 hB
  go_enter Try.func28, Try.ntmps28
  go_wp2_with (fail)
  (refine (impl_ValidFrame.calls ext id rtr dlc A c l true _ (Kd.C_below HR.out ((Below.refl _ _).alloc (Nat.le_refl _) _)) HC.out HV.out).mono ?_; rintro e w1 ⟨rfl, hb1⟩; have HB1 := Lib.hid hb1; clear hb1; have HBOX := Lib.hid (blk_below (blk_new w _) HB1.out); have hc0 := blk_cell HBOX.out 0; have hc1 := blk_cell HBOX.out 1; have hc2 := blk_cell HBOX.out 2; have hc3 := blk_cell HBOX.out 3; have hc4 := blk_cell HBOX.out 4; simp only [box5_0, box5_1, box5_2, box5_3, box5_4] at hc0 hc1 hc2 hc3 hc4)
  go_wp2_with (fail)
  (refine (impl_Body.calls ext id rtr dlc A c l _ _ (Kd.C_below (Kd.C_below HR.out ((Below.refl _ _).alloc (Nat.le_refl _) _)) HB1.out) HC.out HBD.out).mono ?_; rintro e w2 ⟨rfl, hb2⟩; have HB2 := Lib.hid hb2; clear hb2 hc0 hc1 hc2 hc3 hc4; have hcv0 := Lib.run_convert_string_bytes (P := Try.prog) w2 9 107 5 (strOfNums B) Try.underlying9 Try.underlying107 Try.underlying5)
  go_wp2_with (fail)
  (refine (impl_Crc15.calls _ (crcL B : Int) _ (crc15_str HBB.out.1 (by have := HBB.out.2; omega))).mono ?_; rintro e w3 ⟨rfl, hb3⟩)
  have HZ : Hid (w.heap.size ≤ w1.heap.size ∧ w1.heap.size ≤ w2.heap.size ∧ (Lib.bytesWorld w2 5 (strOfNums B)).heap.size = w2.heap.size + 1) := Lib.hid ⟨by have := HB1.out.size; simp at this; omega, HB2.out.size, Lib.bytesWorld_size _ _ _⟩
  obtain ⟨p, hp⟩ : ∃ p, p = (Lib.bytesWorld w2 5 (strOfNums B)).heap.size := ⟨_, rfl⟩
  have HP := Lib.hid hp
  have HQ1 : Hid (w3.heap[p]? = some (.cells #[.slice (some ⟨w2.heap.size, 0, none⟩) (strOfNums B).size (grownCap w2 (strOfNums B).size 0 5)] 107 (0, 0))) := Lib.hid (by rw [hp]; exact blk_below (blk_new _ _) hb3)
  have HQ2 : Hid (RowM 5 w3 w.heap.size (.slice (some ⟨w2.heap.size, 0, none⟩) (strOfNums B).size (grownCap w2 (strOfNums B).size 0 5)) B) := Lib.hid (by
    have h := RowM.bytes w2 5 (strOfNums B) w.heap.size (by have := HZ.out; omega) (by rw [strOfNums_size]; have := HBB.out.2; unfold maxLen; omega)
    rw [bytes_str B HBB.out.1.range] at h
    refine h.move fun k hk => ?_
    have hk2 := (h.typed hk).2.1
    rw [hb3.block k (by simp; omega), Below.heap_alloc _ _ _ hk2])
  have HQ3 : Hid (Below w.heap.size w w3) := Lib.hid (by
    have h1 : Below w.heap.size w w1 := Below.trans ((Below.refl _ _).alloc (Nat.le_refl _) _) (HB1.out.mono (by simp))
    have h2 : Below w.heap.size w w2 := h1.trans (HB2.out.mono HZ.out.1)
    refine ((below_bytes h2 (by have := HZ.out; omega) _ _).alloc (by have := HZ.out; omega) _).trans (hb3.mono (by simp; have := HZ.out; omega)))
  rw [← hp]
  clear hb3 hp hcv0 HB1 HB2 HBOX
  go_wp2_with (fail)
  ((with_reducible refine (impl_letters_number.at _ 15 _ _ _ (crcL B) 15 w.heap.size _ HQ1.out HQ2.out HQ3.out.size ?hx ?hu rfl (by omega) ?hl).mono ?_); (case hx => have := crcL_lt B; first | (rw [IntKind.wrap_u32]; omega) | omega); (case hu => have := crcL_lt B; omega); (case hl => have := HBB.out.2; omega); rintro e w4 ⟨rfl, v', hq1, hq2, hq3⟩; have HB4 := Lib.hid (hq3.below HQ3.out HQ3.out.size (by have := HP.out; have := HZ.out; omega) (fun k hk => (HQ2.out.typed hk).1)); have HQ4 := Lib.hid hq1; have HQ5 := Lib.hid hq2; clear hq1 hq2 hq3; have hptr := blk_cell HQ4.out 0; simp only [box1_0] at hptr; have hcv := RowM.string (P := Try.prog) Try.underlying107 Try.underlying5 Try.underlying9 HQ5.out)
  go_wp2_with (fail)
  (refine (impl_Stuff.calls _ _ _ (stuff_str HPB.out.1 (by have := HPB.out.2; omega))).mono ?_; rintro e w5 ⟨rfl, hb5⟩; have HB5 := Lib.hid hb5; clear hb5)
  have hsz : (strOfNums (stuffL (B ++ numL (crcL B) 15))).size ≤ 236 := by rw [strOfNums_size]; have h1 := stuffL_len (B ++ numL (crcL B) 15); have := HPB.out.2; omega
  go_wp2_with (fail)
  go_ret
  exact ⟨by rw [HPL.out, str_append (stuffL _) onesL]; rfl, HB4.out.trans (HB5.out.mono HB4.out.size)⟩
theorem impl_Encode.calls (a0_0 : Bool) (a0_1 : Int) (a0_2 : Bool) (a0_3 : Int) (A0_4 : Option Addr) (c0_4 : Nat) (l0_4 : List Int) (r : ByteArray) (w : World) (hr0_4 : Kd.C (Kd.int .u8) w A0_4 l0_4.length l0_4) (hc0_4 : l0_4.length ≤ c0_4) (h : impl_Encode.f a0_0 a0_1 a0_2 a0_3 l0_4 = some r) :
    Calls Try.prog 28 #[.agg #[.bool a0_0, .int .u32 a0_1, .bool a0_2, .int .i64 a0_3, .slice A0_4 l0_4.length c0_4]] w fun e w' => e = .returned (.string r) ∧ Below w.heap.size w w' := by
  unfold impl_Encode.f at h
  by_cases c : 0 ≤ a0_1 ∧ okBytes l0_4 = true
  · rw [if_pos c] at h
    have hr := (Option.some.inj h).symm
    unfold encodeV at hr
    cases hv : validF a0_0 a0_1 a0_2 a0_3 l0_4.length with
    | true =>
      rw [hv, if_pos rfl] at hr
      subst hr
      exact impl_Encode.yes a0_0 a0_1 a0_2 a0_3 A0_4 c0_4 l0_4 w hr0_4 hc0_4 c.1 c.2 hv
    | false =>
      rw [hv] at hr
      subst hr
      have HV : Hid (impl_ValidFrame.f a0_0 a0_1 a0_2 a0_3 l0_4 = some false) := Lib.hid (by unfold impl_ValidFrame.f; rw [hv])
      have HR := Lib.hid hr0_4
      have HC := Lib.hid hc0_4
      have HM8 : Hid (l0_4.length ≤ 9223372036854775807) := Lib.hid hr0_4.2.1
      clear hr0_4 hc0_4 hv c h
      go_enter Try.func28, Try.ntmps28
      go_wp2_with (fail)
      (refine (impl_ValidFrame.calls a0_0 a0_1 a0_2 a0_3 A0_4 c0_4 l0_4 false _ (Kd.C_below HR.out ((Below.refl _ _).alloc (Nat.le_refl _) _)) HC.out HV.out).mono ?_; rintro e w1 ⟨rfl, hb1⟩; have HB1 : Hid (Below w.heap.size w w1) := Lib.hid (Below.trans ((Below.refl _ _).alloc (Nat.le_refl _) _) (hb1.mono (by simp))); clear hb1)
      go_wp2_with (fail)
      go_ret
      exact ⟨rfl, HB1.out⟩
  · rw [if_neg c] at h
    cases h
end Go.Proofs.Ytdoclpgciadjaaa.P
