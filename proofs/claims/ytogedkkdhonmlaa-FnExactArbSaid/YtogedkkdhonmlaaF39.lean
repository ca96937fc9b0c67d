import Derived.Test.YtogedkkdhonmlaaF0
import Derived.Test.YtogedkkdhonmlaaF27
import Derived.Test.YtogedkkdhonmlaaF29
import Derived.Test.YtogedkkdhonmlaaF40
import Derived.Test.YtogedkkdhonmlaaF67
import Derived.Test.YtogedkkdhonmlaaF68
import Derived.Test.YtogedkkdhonmlaaText
import Derived.Test.YtogedkkdhonmlaaNum
import Derived.Deep.QuietTactic
import Derived.BigQuiet
namespace Go.Proofs.Ytogedkkdhonmlaa.P
open Go.RowKit Go.Proofs.YtogedkkdhonmlaaW.PrintWords Go.Proofs.YtogedkkdhonmlaaW.PrintLast Go.Proofs.YtogedkkdhonmlaaW.PrintMore
attribute [local go_sem] max2_int min2_int max_two min_two max_three min_three max_four min_four
set_option linter.unusedVariables false
set_option linter.unusedSimpArgs false

-- GIVEN rounds=0 making=1 import=Derived.Test.YtogedkkdhonmlaaText import=Derived.Test.YtogedkkdhonmlaaNum import=Derived.Deep.QuietTactic import=Derived.BigQuiet
/-! ### spec_Body: function 39 -/
def spec_Body.f (a0_0 : Bool) (a0_1 : Int) (a0_2 : Bool) (a0_3 : Int) (l0_4 : List Int) : Option (ByteArray) := if 0 ≤ a0_1 ∧ okBytes l0_4 = true then some (bodyV a0_0 a0_1 a0_2 a0_3 l0_4) else none
theorem spec_l1num.at (x y : Int) (u n : Nat) (w : World) (hx : x = (u : Int)) (hu : u < 4294967296) (hy : y = (n : Int)) (hn : n ≤ 64) :
    Calls Try.prog 67 #[.int .i64 x, .int .i64 y] w fun e w' => e = .returned (.string (strOfNums (numL u n))) ∧ ∃ m, w' = w.drewN m := by
  subst hx hy
  obtain ⟨k, hk⟩ := (l1num_ev n u hu hn).rounds
  exact (spec_l1num.calls k _ _ _ w hk).mono fun e w' ⟨he, hd⟩ => ⟨he, hd.out⟩
theorem spec_l1flag.at (b : Bool) (w : World) :
    Calls Try.prog 68 #[.bool b] w fun e w' => e = .returned (.string (strOfNums (flagL b))) ∧ ∃ m, w' = w.drewN m :=
  (spec_l1flag.calls b _ w (l1flag_eq b)).mono fun e w' ⟨he, hd⟩ => ⟨he, hd.out⟩
theorem spec_ValidFrame.at (ext : Bool) (id : Int) (rtr : Bool) (dlc : Int) (A : Option Addr) (c : Nat) (l : List Int) (w : World) (hr : Kd.C (Kd.int .u8) w A l.length l) (hc : l.length ≤ c) (b : Bool) (hv : validF ext id rtr dlc l.length = b) :
    Calls Try.prog 27 #[.agg #[.bool ext, .int .u32 id, .bool rtr, .int .i64 dlc, .slice A l.length c]] w fun e w' => e = .returned (.bool b) ∧ Below w.heap.size w w' := by
  subst hv
  obtain ⟨k, hk⟩ := (specValid_ev ext id rtr dlc l).rounds
  exact spec_ValidFrame.calls k ext id rtr dlc A c l _ w hr hc hk
theorem below_drewN {B : Nat} {a w : World} (h : Below B a w) (n : Nat) : Below B a (w.drewN n) := ⟨h.os, h.tape, h.output, h.size, h.block⟩
theorem str0 : (⟨#[48]⟩ : ByteArray) = strOfNums [48] := rfl
theorem str1 : (⟨#[49]⟩ : ByteArray) = strOfNums [49] := rfl
theorem str00 : (⟨#[48, 48]⟩ : ByteArray) = strOfNums [48, 48] := rfl
theorem text_base (id : Int) (rtr : Bool) : (⟨#[48]⟩ : ByteArray) ++ strOfNums (numL id.toNat 11) ++ strOfNums (flagL rtr) ++ ⟨#[48]⟩ ++ ⟨#[48]⟩ = strOfNums (headL false id rtr) := by
  rw [str0, ← str_append, ← str_append, ← str_append, ← str_append]
  congr 1
theorem text_ext29 (id : Int) (rtr : Bool) : (⟨#[48]⟩ : ByteArray) ++ strOfNums (numL (id.toNat / 262144) 11) ++ ⟨#[49]⟩ ++ ⟨#[49]⟩ ++ strOfNums (numL id.toNat 18) ++ strOfNums (flagL rtr) ++ ⟨#[48, 48]⟩ = strOfNums (headL true id rtr) := by
  rw [str0, str1, str00, ← str_append, ← str_append, ← str_append, ← str_append, ← str_append, ← str_append]
  congr 1
theorem num29 (u : Nat) : numL u 29 = numL (u / 262144) 11 ++ numL u 18 := numL_add u 11 18
theorem text_left (u : Nat) : (strOfNums (numL u 29)).extract 0 11 = strOfNums (numL (u / 262144) 11) := by
  rw [num29]
  have := str_extract_left (numL (u / 262144) 11) (numL u 18)
  rw [numL_length] at this
  exact this
theorem text_right (u : Nat) : (strOfNums (numL u 29)).extract 11 29 = strOfNums (numL u 18) := by
  have h := str_extract_right (numL (u / 262144) 11) (numL u 18)
  rw [← num29, numL_length, strOfNums_size, numL_length] at h
  exact h
set_option maxHeartbeats 4000000 in
theorem spec_Body.yes (ext : Bool) (id : Int) (rtr : Bool) (dlc : Int) (A : Option Addr) (c : Nat) (l : List Int) (w : World) (hr : Kd.C (Kd.int .u8) w A l.length l) (hc : l.length ≤ c) (h0 : 0 ≤ id) (hb : okBytes l = true) (hv : validF ext id rtr dlc l.length = true) :
    Calls Try.prog 39 #[.agg #[.bool ext, .int .u32 id, .bool rtr, .int .i64 dlc, .slice A l.length c]] w fun e w' => e = .returned (.string (strOfNums (bodyL ext id rtr dlc l))) ∧ Below w.heap.size w w' := by
  obtain ⟨hid, hd0, hd1, -, hn8⟩ := valid_parts hv
  have HV := Lib.hid hv
  have HR := Lib.hid hr
  have HC := Lib.hid hc
  have HOB := Lib.hid hb
  have hid2 : id < 536870912 := by unfold vtop at hid; split at hid <;> omega
  have HID : Hid (ext = false → id < 2048) := Lib.hid (fun e => by rw [e] at hid; exact hid)
  have HU : Hid (id = (id.toNat : Int)) := Lib.hid (by omega)
  have HD : Hid (dlc = (dlc.toNat : Int)) := Lib.hid (by omega)
  have HL : Hid (l.length ≤ 8) := Lib.hid hn8
  have HM8 : Hid (l.length ≤ 9223372036854775807) := Lib.hid hr.2.1
  clear hv hr hc hb hid hn8
  cases ext
  · go_enter Try.func39, Try.ntmps39
    go_wp2_with (fail)
    (refine (spec_ValidFrame.at false id rtr dlc A c l _ (Kd.C_below HR.out ((Below.refl _ _).alloc (Nat.le_refl _) _)) HC.out true HV.out).mono ?_; rintro e w1 ⟨rfl, hb1⟩; have HB1 : Hid (Below w.heap.size w w1) := Lib.hid (Below.trans ((Below.refl _ _).alloc (Nat.le_refl _) _) (hb1.mono (by simp))); have HBOX := Lib.hid (blk_below (blk_new w _) hb1); clear hb1; have hc0 := blk_cell HBOX.out 0; have hc1 := blk_cell HBOX.out 1; have hc2 := blk_cell HBOX.out 2; have hc3 := blk_cell HBOX.out 3; have hc4 := blk_cell HBOX.out 4; simp only [box5_0, box5_1, box5_2, box5_3, box5_4] at hc0 hc1 hc2 hc3 hc4)
    go_wp2_with (fail)
    have hw : IntKind.i64.wrap id = id := by rw [IntKind.wrap_i64]; omega
    have hs1 : (strOfNums (numL id.toNat 11)).size = 11 := by rw [strOfNums_size, numL_length]
    have hs2 : (strOfNums (flagL rtr)).size = 1 := by rw [strOfNums_size]; rfl
    go_quiet ((first | (go_at_call 67; exact Calls.quiet_of (spec_l1num.at _ 11 id.toNat 11 _ HU.out (by omega) rfl (by omega))) | (go_at_call 68; exact Calls.quiet_of (spec_l1flag.at _ _))))
    go_wp2_with (fail)
    rw [text_base]
    (refine (spec_l1num.at dlc 4 dlc.toNat 4 _ HD.out (by omega) rfl (by omega)).mono ?_; rintro e w2 ⟨rfl, m2, rfl⟩)
    have HS1 : (strOfNums (headL false id rtr)).size ≤ 35 := by rw [strOfNums_size]; exact headL_length _ _ _
    have HS2 : (strOfNums (numL dlc.toNat 4)).size = 4 := by rw [strOfNums_size, numL_length]
    go_wp2_with (fail)
    have HBL := below_drewN HB1.out
    have HBX := HBOX.out
    clear hc0 hc1 hc2 hc3 hc4 HBOX
    go_loopw [5, 3] (fun v5 v3 wr => ∃ (i : Nat), i ≤ l.length ∧ v5 = .int .i64 i ∧ v3 = .string (strOfNums (headL false id rtr ++ (numL dlc.toNat 4 ++ dataL (l.take i)))) ∧ Aside0 (Below w.heap.size w wr) ∧ Aside0 (wr.heap[w.heap.size]? = some (.cells #[.bool false, .int .u32 id, .bool rtr, .int .i64 dlc, .slice A l.length c] 43 (0, 0)))) (fun v5 _ _ => l.length - (intOf v5).toNat)
    case atStart => exact ⟨0, Nat.zero_le _, rfl, by rw [← str_append, List.take_zero]; simp [dataL], ⟨HBL _⟩, ⟨HBX⟩⟩
    case round =>
      obtain ⟨i, hi, rfl, rfl, HB, HBOX⟩ := hrel
      have hc0 := blk_cell HBOX.out 0; have hc1 := blk_cell HBOX.out 1; have hc2 := blk_cell HBOX.out 2; have hc3 := blk_cell HBOX.out 3; have hc4 := blk_cell HBOX.out 4; simp only [box5_0, box5_1, box5_2, box5_3, box5_4] at hc0 hc1 hc2 hc3 hc4
      have hsz : (strOfNums (headL false id rtr ++ (numL dlc.toNat 4 ++ dataL (l.take i)))).size ≤ 103 := by
        have h1 := headL_length false id rtr; have h2 := dataL_length (l.take i); have h3 := HL.out; rw [strOfNums_size]; simp [numL_length] at h1 h2 ⊢; omega
      by_cases hlt : i < l.length
      · obtain ⟨ad, ea, hcell⟩ := Kd.at_int (Kd.C_below HR.out HB.out) (i : Int) (by omega) (by omega)
        subst ea
        have HBY := Lib.hid (okBytes_at HOB.out i hlt)
        have HX : Hid (rd l (i : Int) = ((rd l (i : Int)).toNat : Int)) := Lib.hid (by have := HBY.out; omega)
        rw [HX.out, Int.toNat_natCast] at hcell
        generalize hxx : (rd l (i : Int)).toNat = x at hcell
        have HXX : Hid (x = (rd l (i : Int)).toNat ∧ x < 256) := Lib.hid ⟨hxx.symm, by have := HBY.out; omega⟩
        have hx256 : x < 256 := HXX.out.2
        have hm8 := HM8.out
        clear hxx
        go_wp2_with (fail)
        (refine (spec_l1num.at (x : Int) 8 x 8 _ rfl (by omega) rfl (by omega)).mono ?_; rintro e w3 ⟨rfl, m3, rfl⟩)
        have HS3 : (strOfNums (numL x 8)).size = 8 := by rw [strOfNums_size, numL_length]
        go_wp2_with (fail)
        go_roundw
        case rel => exact ⟨i + 1, hlt, by go_num, by rw [← str_append, take_next l i hlt, dataL_snoc, HXX.out.1]; simp only [List.append_assoc], ⟨below_drewN HB.out _⟩, ⟨HBOX.out⟩⟩
        case measure => simp [intOf]; omega
      · obtain rfl : i = l.length := by omega
        go_wp2_with (fail)
        go_ret
        exact ⟨by rw [List.take_length]; unfold bodyL; rw [List.append_assoc]; rfl, HB.out⟩
  · go_enter Try.func39, Try.ntmps39
    go_wp2_with (fail)
    (refine (spec_ValidFrame.at true id rtr dlc A c l _ (Kd.C_below HR.out ((Below.refl _ _).alloc (Nat.le_refl _) _)) HC.out true HV.out).mono ?_; rintro e w1 ⟨rfl, hb1⟩; have HB1 : Hid (Below w.heap.size w w1) := Lib.hid (Below.trans ((Below.refl _ _).alloc (Nat.le_refl _) _) (hb1.mono (by simp))); have HBOX := Lib.hid (blk_below (blk_new w _) hb1); clear hb1; have hc0 := blk_cell HBOX.out 0; have hc1 := blk_cell HBOX.out 1; have hc2 := blk_cell HBOX.out 2; have hc3 := blk_cell HBOX.out 3; have hc4 := blk_cell HBOX.out 4; simp only [box5_0, box5_1, box5_2, box5_3, box5_4] at hc0 hc1 hc2 hc3 hc4)
    go_wp2_with (fail)
    have hw : IntKind.i64.wrap id = id := by rw [IntKind.wrap_i64]; omega
    (refine (spec_l1num.at id 29 id.toNat 29 _ HU.out (by omega) rfl (by omega)).mono ?_; rintro e wn ⟨rfl, mn, rfl⟩)
    have hs2 : (strOfNums (flagL rtr)).size = 1 := by rw [strOfNums_size]; rfl
    have hs3 : (strOfNums (numL id.toNat 29)).size = 29 := by rw [strOfNums_size, numL_length]
    have hs4 : (strOfNums (numL (id.toNat / 262144) 11)).size = 11 := by rw [strOfNums_size, numL_length]
    have hs5 : (strOfNums (numL id.toNat 18)).size = 18 := by rw [strOfNums_size, numL_length]
    have hx1 : (strOfNums (numL id.toNat 29)).extract 0 11 = strOfNums (numL (id.toNat / 262144) 11) := text_left id.toNat
    have hx2 : (strOfNums (numL id.toNat 29)).extract 11 29 = strOfNums (numL id.toNat 18) := text_right id.toNat
    go_wp2_with (fail)
    obtain ⟨W, hW⟩ : ∃ W, W = w1.drewN mn := ⟨_, rfl⟩
    rw [← hW]
    (have HBX : Hid (W.heap[w.heap.size]? = some (.cells #[.bool true, .int .u32 id, .bool rtr, .int .i64 dlc, .slice A l.length c] 43 (0, 0))) := Lib.hid (by rw [hW]; exact HBOX.out); have HBW : Hid (Below w.heap.size w W) := Lib.hid (by rw [hW]; exact below_drewN HB1.out _); clear hc0 hc1 hc2 hc3 hc4 hW HBOX HB1; have HBOX := HBX; have HB1 := HBW; clear HBX HBW; have hc0 := blk_cell HBOX.out 0; have hc1 := blk_cell HBOX.out 1; have hc2 := blk_cell HBOX.out 2; have hc3 := blk_cell HBOX.out 3; have hc4 := blk_cell HBOX.out 4; simp only [box5_0, box5_1, box5_2, box5_3, box5_4] at hc0 hc1 hc2 hc3 hc4)
    go_quiet ((first | (go_at_call 68; exact Calls.quiet_of (spec_l1flag.at _ _))))
    go_wp2_with (fail)
    rw [text_ext29]
    (refine (spec_l1num.at dlc 4 dlc.toNat 4 _ HD.out (by omega) rfl (by omega)).mono ?_; rintro e w2 ⟨rfl, m2, rfl⟩)
    have HS1 : (strOfNums (headL true id rtr)).size ≤ 35 := by rw [strOfNums_size]; exact headL_length _ _ _
    have HS2 : (strOfNums (numL dlc.toNat 4)).size = 4 := by rw [strOfNums_size, numL_length]
    go_wp2_with (fail)
    have HBL := below_drewN HB1.out
    have HBX := HBOX.out
    clear hc0 hc1 hc2 hc3 hc4 HBOX
    go_loopw [5, 3] (fun v5 v3 wr => ∃ (i : Nat), i ≤ l.length ∧ v5 = .int .i64 i ∧ v3 = .string (strOfNums (headL true id rtr ++ (numL dlc.toNat 4 ++ dataL (l.take i)))) ∧ Aside0 (Below w.heap.size w wr) ∧ Aside0 (wr.heap[w.heap.size]? = some (.cells #[.bool true, .int .u32 id, .bool rtr, .int .i64 dlc, .slice A l.length c] 43 (0, 0)))) (fun v5 _ _ => l.length - (intOf v5).toNat)
    case atStart => exact ⟨0, Nat.zero_le _, rfl, by rw [← str_append, List.take_zero]; simp [dataL], ⟨HBL _⟩, ⟨HBX⟩⟩
    case round =>
      obtain ⟨i, hi, rfl, rfl, HB, HBOX⟩ := hrel
      have hc0 := blk_cell HBOX.out 0; have hc1 := blk_cell HBOX.out 1; have hc2 := blk_cell HBOX.out 2; have hc3 := blk_cell HBOX.out 3; have hc4 := blk_cell HBOX.out 4; simp only [box5_0, box5_1, box5_2, box5_3, box5_4] at hc0 hc1 hc2 hc3 hc4
      have hsz : (strOfNums (headL true id rtr ++ (numL dlc.toNat 4 ++ dataL (l.take i)))).size ≤ 103 := by
        have h1 := headL_length true id rtr; have h2 := dataL_length (l.take i); have h3 := HL.out; rw [strOfNums_size]; simp [numL_length] at h1 h2 ⊢; omega
      by_cases hlt : i < l.length
      · obtain ⟨ad, ea, hcell⟩ := Kd.at_int (Kd.C_below HR.out HB.out) (i : Int) (by omega) (by omega)
        subst ea
        have HBY := Lib.hid (okBytes_at HOB.out i hlt)
        have HX : Hid (rd l (i : Int) = ((rd l (i : Int)).toNat : Int)) := Lib.hid (by have := HBY.out; omega)
        rw [HX.out, Int.toNat_natCast] at hcell
        generalize hxx : (rd l (i : Int)).toNat = x at hcell
        have HXX : Hid (x = (rd l (i : Int)).toNat ∧ x < 256) := Lib.hid ⟨hxx.symm, by have := HBY.out; omega⟩
        have hx256 : x < 256 := HXX.out.2
        have hm8 := HM8.out
        clear hxx
        go_wp2_with (fail)
        (refine (spec_l1num.at (x : Int) 8 x 8 _ rfl (by omega) rfl (by omega)).mono ?_; rintro e w3 ⟨rfl, m3, rfl⟩)
        have HS3 : (strOfNums (numL x 8)).size = 8 := by rw [strOfNums_size, numL_length]
        go_wp2_with (fail)
        go_roundw
        case rel => exact ⟨i + 1, hlt, by go_num, by rw [← str_append, take_next l i hlt, dataL_snoc, HXX.out.1]; simp only [List.append_assoc], ⟨below_drewN HB.out _⟩, ⟨HBOX.out⟩⟩
        case measure => simp [intOf]; omega
      · obtain rfl : i = l.length := by omega
        go_wp2_with (fail)
        go_ret
        exact ⟨by rw [List.take_length]; unfold bodyL; rw [List.append_assoc]; rfl, HB.out⟩
theorem spec_Body.calls (a0_0 : Bool) (a0_1 : Int) (a0_2 : Bool) (a0_3 : Int) (A0_4 : Option Addr) (c0_4 : Nat) (l0_4 : List Int) (r : ByteArray) (w : World) (hr0_4 : Kd.C (Kd.int .u8) w A0_4 l0_4.length l0_4) (hc0_4 : l0_4.length ≤ c0_4) (h : spec_Body.f a0_0 a0_1 a0_2 a0_3 l0_4 = some r) :
    Calls Try.prog 39 #[.agg #[.bool a0_0, .int .u32 a0_1, .bool a0_2, .int .i64 a0_3, .slice A0_4 l0_4.length c0_4]] w fun e w' => e = .returned (.string r) ∧ Below w.heap.size w w' := by
  unfold spec_Body.f at h
  by_cases c : 0 ≤ a0_1 ∧ okBytes l0_4 = true
  · rw [if_pos c] at h
    have hr := (Option.some.inj h).symm
    unfold bodyV at hr
    cases hv : validF a0_0 a0_1 a0_2 a0_3 l0_4.length with
    | true =>
      rw [hv, if_pos rfl] at hr
      subst hr
      exact spec_Body.yes a0_0 a0_1 a0_2 a0_3 A0_4 c0_4 l0_4 w hr0_4 hc0_4 c.1 c.2 hv
    | false =>
      rw [hv] at hr
      subst hr
      have HV := Lib.hid hv
      have HR := Lib.hid hr0_4
      have HC := Lib.hid hc0_4
      have HM8 : Hid (l0_4.length ≤ 9223372036854775807) := Lib.hid hr0_4.2.1
      clear hr0_4 hc0_4 hv c h
      go_enter Try.func39, Try.ntmps39
      go_wp2_with (fail)
      (refine (spec_ValidFrame.at a0_0 a0_1 a0_2 a0_3 A0_4 c0_4 l0_4 _ (Kd.C_below HR.out ((Below.refl _ _).alloc (Nat.le_refl _) _)) HC.out false HV.out).mono ?_; rintro e w1 ⟨rfl, hb1⟩; have HB1 : Hid (Below w.heap.size w w1) := Lib.hid (Below.trans ((Below.refl _ _).alloc (Nat.le_refl _) _) (hb1.mono (by simp))); clear hb1)
      go_wp2_with (fail)
      go_ret
      exact ⟨rfl, HB1.out⟩
  · rw [if_neg c] at h
    cases h

end Go.Proofs.Ytogedkkdhonmlaa.P
