import Derived.Test.YtogedkkdhonmlaaF0
import Derived.Test.YtogedkkdhonmlaaF46
import Derived.Test.YtogedkkdhonmlaaF49
import Derived.Test.YtogedkkdhonmlaaWorld
import Derived.Test.YtogedkkdhonmlaaDue
import Derived.Test.YtogedkkdhonmlaaSpecBits
import Derived.Deep.QuietTactic
import Derived.BigQuiet
namespace Go.Proofs.Ytogedkkdhonmlaa.P
open Go.RowKit Go.Proofs.YtogedkkdhonmlaaW.PrintWords Go.Proofs.YtogedkkdhonmlaaW.PrintLast Go.Proofs.YtogedkkdhonmlaaW.PrintMore
attribute [local go_sem] max2_int min2_int max_two min_two max_three min_three max_four min_four
set_option linter.unusedVariables false
set_option linter.unusedSimpArgs false

-- GIVEN rounds=0 making=1 import=Derived.Test.YtogedkkdhonmlaaWorld import=Derived.Test.YtogedkkdhonmlaaDue import=Derived.Test.YtogedkkdhonmlaaSpecBits import=Derived.Deep.QuietTactic import=Derived.BigQuiet
/-! ### spec_Destuff: function 17 -/
def spec_Destuff.f (a0 : ByteArray) : Option (ByteArray × Int) := some (destuffV a0)
theorem spec_l1okBits.at (a0 : ByteArray) (lim : Nat) (w : World) (hlim : lim < 100000000) (b : Bool) (hb : (decide (a0.size ≤ lim) && isBits a0) = b) :
    Calls Try.prog 46 #[.string a0, .int .i64 (lim : Int)] w fun e w' => e = .returned (.bool b) ∧ Below w.heap.size w w' := by
  obtain ⟨k, hk⟩ := (okBits_ev a0 lim hlim).rounds
  rw [hb] at hk
  exact (spec_l1okBits.calls k a0 (lim : Int) b w hk).mono fun e w' ⟨he, hd⟩ => ⟨he, hd.below⟩
theorem spec_l1due.at {s : ByteArray} {g c i run : Nat} {last : Int} {w : World} (hC : Kd.C (Kd.int .u8) w (some ⟨g, 0, none⟩) s.size (bytesOf s)) (hc : s.size ≤ c) (ht : Trail (bytesOf s) i run last) (h5 : run ≤ 5) (hi : i < 100000000) (b : Bool) (hb : decide (run = 5) = b) :
    Calls Try.prog 49 #[.slice (some ⟨g, 0, none⟩) s.size c, .int .i64 (i : Int)] w fun e w' => e = .returned (.bool b) ∧ Drawn0 w w' := by
  have h := due_eq ht h5 hi
  rw [hb] at h
  have := spec_l1due.calls (some ⟨g, 0, none⟩) c (bytesOf s) (i : Int) b w (by rw [bytesOf_length]; exact hC) (by rw [bytesOf_length]; exact hc) h
  rw [bytesOf_length] at this
  exact this
structure DesOk (s : ByteArray) (R : List Int × Int) (i : Nat) (out : List Int) (run : Nat) (last : Int) : Prop where
  at_ : DesAt s R i out (run : Int) last
  trail : Trail (bytesOf s) i run last
theorem rd_bytes (s : ByteArray) (i : Nat) (h : i < s.size) : rd (bytesOf s) (i : Int) = ((s[i]'h).toNat : Int) := by
  have hl : i < (bytesOf s).length := by rw [bytesOf_length]; exact h
  have h1 := rd_get (bytesOf s) i hl
  rw [List.getElem?_eq_getElem hl, bytesOf_get, bt_eq s i h] at h1
  exact (Option.some.inj h1).symm
theorem DesOk.step {s : ByteArray} {R : List Int × Int} {i : Nat} {out : List Int} {run : Nat} {last : Int} (h : DesOk s R i out run last) (hp : i < s.size) (hr : run ≠ 5) : ∃ run' last', DesOk s R (i + 1) (out ++ [rd (bytesOf s) (i : Int)]) run' last' := by
  have ht := h.trail.next (by rw [bytesOf_length]; exact hp)
  have hs := h.at_.step hp (b := (s[i]'hp).toNat) rfl (by omega)
  rw [← rd_bytes s i hp] at hs
  refine ⟨_, _, ?_, ht⟩
  rw [show (((if rd (bytesOf s) (i : Int) = last then run + 1 else 1 : Nat)) : Int) = (if rd (bytesOf s) (i : Int) = last then (run : Int) + 1 else 1) by split <;> simp]
  exact hs
theorem DesOk.skip {s : ByteArray} {R : List Int × Int} {i : Nat} {out : List Int} {last : Int} (h : DesOk s R i out 5 last) (hp : i < s.size) (hne : rd (bytesOf s) (i : Int) ≠ last) : ∃ run' last', DesOk s R (i + 1) out run' last' := by
  have ht := h.trail.next (by rw [bytesOf_length]; exact hp)
  rw [if_neg hne] at ht
  have hs := h.at_.skip hp (b := (s[i]'hp).toNat) rfl (by rw [← rd_bytes s i hp]; exact hne)
  rw [← rd_bytes s i hp] at hs
  exact ⟨1, _, hs, ht⟩
theorem DesOk.last_eq {s : ByteArray} {R : List Int × Int} {i : Nat} {out : List Int} {last : Int} (h : DesOk s R i out 5 last) : rd (bytesOf s) ((i - 1 : Nat) : Int) = last := h.trail.same (i - 1) (by have := h.trail.run_le; omega) (by have := h.trail.run_le; omega)
set_option maxHeartbeats 2000000 in
theorem spec_Destuff.yes (a0 : ByteArray) (R : List Int × Int) (w : World) (hsz : a0.size ≤ 4000) (hB0 : isBits a0 = true) (hR : destuffL (bytesOf a0) 0 0 120 [] = R) :
    Calls Try.prog 17 #[.string a0] w fun e w' => e = .returned (.tuple #[.string (strOfNums R.1), .int .i64 R.2]) ∧ Below w.heap.size w w' := by
  have hbt : Hid ((decide (a0.size ≤ 4000) && isBits a0) = true) := by
    refine Lib.hid ?_
    rw [hB0, decide_eq_true (by omega)]; rfl
  have HB := Lib.hid hB0
  have H0 : Hid (DesOk a0 R 0 [] 0 120) := Lib.hid ⟨hR ▸ DesAt.zero a0, Trail.zero _ _⟩
  clear hB0 hR
  go_enter Try.func17, Try.ntmps17
  go_wp2_with (go_at_call 46; refine (spec_l1okBits.at a0 4000 _ (by omega) true hbt.out).mono ?_; rintro e w1 ⟨rfl, hb1⟩; have hcv0 := Lib.run_convert_string_bytes (P := Try.prog) w1 9 38 5 a0 Try.underlying9 Try.underlying38 Try.underlying5; have HBL := Lib.hid hb1; clear hb1)
  have HCC : Hid (a0.size ≤ grownCap w1 a0.size 0 5) := Lib.hid (grownCap_ge _ _ _ _)
  generalize grownCap w1 a0.size 0 5 = cc at HCC ⊢
  have HR0 := Lib.hid (R_empty (Kd.int .u8) (Lib.bytesWorld w1 5 a0) 5 w.heap.size (by rw [Lib.bytesWorld_size]; have := HBL.out.size; omega) (fun k => k ≠ w1.heap.size) (by rw [Lib.bytesWorld_size]; omega))
  go_loopw [5, 6] (fun v5 v6 wr => ∃ (i : Nat) (out : List Int) (run : Nat) (last : Int), DesOk a0 R i out run last ∧ Aside0 (Kd.R (Kd.int .u8) 5 wr w.heap.size (fun k => k ≠ w1.heap.size) v5 out) ∧ Aside0 (Below w.heap.size w wr) ∧ Aside0 (Kd.C (Kd.int .u8) wr (some ⟨w1.heap.size, 0, none⟩) a0.size (bytesOf a0)) ∧ Aside0 (w1.heap.size < wr.heap.size) ∧ v6 = .int .i64 i) (fun _ v6 _ => a0.size - (intOf v6).toNat)
  case atStart => exact ⟨0, [], 0, 120, H0.out, ⟨HR0.out⟩, ⟨(below_bytes HBL.out HBL.out.size 5 a0).alloc (by rw [Lib.bytesWorld_size]; have := HBL.out.size; omega) _⟩, ⟨Kd.C_below (bytes_C w1 5 a0 (by omega)) ((Below.refl _ _).alloc (Nat.le_refl _) _)⟩, ⟨by simp [Lib.bytesWorld_size]; omega⟩, rfl⟩
  case round =>
    obtain ⟨i, out, run, last, hst, HO, HW, HC, HG, rfl⟩ := hrel
    have HL := Lib.hid hst.at_.len
    by_cases hp : i < a0.size
    · have hcell := C_cell HC.out i hp
      by_cases h5 : run = 5
      · have HD : Hid (decide (run = 5) = true) := Lib.hid (decide_eq_true h5)
        subst h5
        have hr5 := hst.trail.run_le
        have HLE := Lib.hid hst.last_eq
        have hcell2 := C_cell HC.out (i - 1) (by omega)
        rw [HLE.out] at hcell2
        have HI1 : Hid (i - 1 < a0.size) := Lib.hid (by omega)
        have HW1 : Hid (IntKind.i64.wrap ((i : Int) - 1) = ((i - 1 : Nat) : Int)) := Lib.hid (by rw [IntKind.wrap_i64]; omega)
        by_cases hx : rd (bytesOf a0) (i : Int) = last
        · have hxb : ((rd (bytesOf a0) (i : Int)) == last) = true := beq_iff_eq.mpr hx
          have HS := Lib.hid (hst.at_.stop hp (b := (a0[i]'hp).toNat) rfl (by rw [← rd_bytes a0 i hp]; exact hx))
          have hcv : ∀ n : Nat, (convert 38 9 u5).run Try.prog (wr.drewN n) = .ok (.string (strOfNums out)) (wr.drewN n) := fun n => own_string (P := Try.prog) Try.underlying38 Try.underlying5 Try.underlying9 (Kd.own_of_R (Kd.R_below HO.out (Drawn0.below ⟨⟨n, rfl⟩⟩)))
          clear hx
          go_wp2_with (go_at_call 49; refine (spec_l1due.at HC.out HCC.out hst.trail (by omega) (by omega) true HD.out).mono ?_; rintro e w' ⟨rfl, ⟨nd, rfl⟩⟩)
          have hi1 := HI1.out
          have hw1 := HW1.out
          go_quiet (fail)
          clear hw1 hi1
          go_wp2
          go_ret2
          exact ⟨by rw [HS.out]; rfl, by repeat (first | exact HW.out | apply pw_below_drewN | apply below_drew)⟩
        · have hxb : ((rd (bytesOf a0) (i : Int)) == last) = false := beq_eq_false_iff_ne.mpr hx
          obtain ⟨run', last', hok⟩ := hst.skip hp hx
          have HOK := Lib.hid hok
          clear hok hx
          go_wp2_with (go_at_call 49; refine (spec_l1due.at HC.out HCC.out hst.trail (by omega) (by omega) true HD.out).mono ?_; rintro e w' ⟨rfl, ⟨nd, rfl⟩⟩)
          have hi1 := HI1.out
          have hw1 := HW1.out
          go_quiet (fail)
          clear hw1 hi1
          go_wp2
          go_roundw
          case rel => exact ⟨i + 1, _, _, _, HOK.out, ⟨Kd.R_below HO.out (by repeat (first | exact Below.refl _ _ | apply pw_below_drewN | apply below_drew))⟩, ⟨by repeat (first | exact HW.out | apply pw_below_drewN | apply below_drew)⟩, ⟨Kd.C_below HC.out (by repeat (first | exact Below.refl _ _ | apply pw_below_drewN | apply below_drew))⟩, ⟨by simpa using HG.out⟩, by go_num⟩
          case measure => simp [intOf]; omega
      · have HD : Hid (decide (run = 5) = false) := Lib.hid (decide_eq_false h5)
        obtain ⟨run', last', hok⟩ := hst.step hp h5
        have HOK := Lib.hid hok
        clear hok
        go_wp2_with (first | (go_at_call 49; refine (spec_l1due.at HC.out HCC.out hst.trail (by have := hst.at_.hi; omega) (by omega) false HD.out).mono ?_; rintro e w' ⟨rfl, ⟨nd, rfl⟩⟩) | (at_builtin; refine Kd.R_append (Kd.int .u8) (w0 := w) w.heap.size rfl (.tmp 23) (.tmp 28) 38 5 (.int .u8 0) 1 rfl Try.underlying38 infoU8 rfl (by decide) (by omega) _ out (rd (bytesOf a0) (i : Int)) [.int .u8 (rd (bytesOf a0) (i : Int))] (fun k => k ≠ w1.heap.size) (fun _ => False) rfl rfl ?aP (fun _ hk => hk.elim) ?aF ?aO ?aB ?aS ?aL ?_; (case aP => exact rfl); (case aF => exact fun k hk => by have := HG.out; simp at hk; omega); (case aO => exact Kd.R_below HO.out (Drawn0.below ⟨⟨nd, rfl⟩⟩)); (case aB => exact pw_below_drewN HW.out nd); (case aS => exact HW.out.size); (case aL => have := HL.out; omega); intro v1 wA ho1 hb1 hg1 hat1; have HO1 := Aside0.mk ho1; have HW1 := Aside0.mk hb1; have HC1 := Lib.hid (C_kept (Kd.C_below HC.out (Drawn0.below ⟨⟨nd, rfl⟩⟩)) hg1 (by have := HG.out; simp; omega) (fun k hk => (HO.out.1 k hk))); have HG1 := Lib.hid (Nat.lt_of_lt_of_le HG.out (by simpa using hg1.size)); clear ho1 hb1 hg1 hat1))
        go_roundw
        case rel => exact ⟨i + 1, _, _, _, HOK.out, HO1, HW1, ⟨HC1.out⟩, ⟨HG1.out⟩, by go_num⟩
        case measure => simp [intOf]; omega
    · have hcv := own_string (P := Try.prog) Try.underlying38 Try.underlying5 Try.underlying9 (Kd.own_of_R HO.out)
      have HS := Lib.hid (hst.at_.over hp)
      clear hst
      go_wp2
      go_ret2
      exact ⟨by rw [HS.out]; rfl, HW.out⟩
theorem spec_Destuff.calls (a0 : ByteArray) (r1 : ByteArray) (r2 : Int) (w : World) (h : spec_Destuff.f a0 = some (r1, r2)) :
    Calls Try.prog 17 #[.string a0] w fun e w' => e = .returned (.tuple #[.string r1, .int .i64 r2]) ∧ Below w.heap.size w w' := by
  have h' : destuffV a0 = (r1, r2) := Option.some.inj h
  unfold destuffV at h'
  by_cases c : a0.size ≤ 4000 ∧ isBits a0 = true
  · rw [if_pos c] at h'
    simp only [Prod.mk.injEq] at h'
    obtain ⟨rfl, rfl⟩ := h'
    exact spec_Destuff.yes a0 _ w c.1 c.2 rfl
  · rw [if_neg c] at h'
    simp only [Prod.mk.injEq] at h'
    obtain ⟨rfl, rfl⟩ := h'
    clear h
    have hbt : Hid ((decide (a0.size ≤ 4000) && isBits a0) = false) := by
      refine Lib.hid ?_
      rw [Bool.and_eq_false_iff]
      by_cases h : isBits a0 = true
      · exact .inl (decide_eq_false fun h2 => c ⟨by omega, h⟩)
      · exact .inr (by simpa using h)
    clear c
    go_enter Try.func17, Try.ntmps17
    go_wp2_with (go_at_call 46; refine (spec_l1okBits.at a0 4000 _ (by omega) false hbt.out).mono ?_; rintro e w1 ⟨rfl, hb1⟩)
    go_ret2
    exact ⟨rfl, hb1⟩

end Go.Proofs.Ytogedkkdhonmlaa.P
