import Derived.Test.YtogedkkdhonmlaaQFnExactEncode2
import Derived.Test.YtogedkkdhonmlaaQFnExactEncode0
import Derived.Deep.QuietTactic
import Derived.BigQuiet
import Derived.Test.YtogedkkdhonmlaaQFnExactEncode1

namespace Go.Proofs.Ytogedkkdhonmlaa.P
open Go Go.RowKit Go.Proofs.YtogedkkdhonmlaaW.PrintWords
set_option linter.unusedVariables false
theorem l1num_ev (n : Nat) : ∀ (u : Nat), u < 4294967296 → n ≤ 64 → Ev (fun k => spec_l1num.f k (u : Int) (n : Int)) (strOfNums (numL u n)) := by
  induction n with
  | zero =>
    intro u hu hn
    refine Ev.step (f := fun _ => some (⟨#[]⟩ : ByteArray)) (fun k => ?_) (Ev.now _)
    simp only [spec_l1num.f]
    rw [if_pos (by omega)]
  | succ n ih =>
    intro u hu hn
    have ih' := ih (u / 2) (by omega) (by omega)
    have e1 : wrap64 (Int.tdiv (u : Int) 2) = ((u / 2 : Nat) : Int) := by
      rw [Int.tdiv_eq_ediv_of_nonneg (by omega)]; unfold wrap64; omega
    have e2 : wrap64 (((n + 1 : Nat) : Int) - 1) = (n : Int) := by unfold wrap64; omega
    have e3 : Int.tmod (u : Int) 2 = ((u % 2 : Nat) : Int) := by rw [Int.tmod_eq_emod_of_nonneg (by omega)]; omega
    have hsz : (strOfNums (numL (u / 2) n)).size + 1 ≤ 9223372036854775807 := by rw [strOfNums_size, numL_length]; omega
    by_cases c : u % 2 = 1
    · refine Ev.step (f := fun k => (spec_l1num.f k ((u / 2 : Nat) : Int) (n : Int)).bind fun t => if t.size + 1 ≤ 9223372036854775807 then some (t ++ (⟨#[49]⟩ : ByteArray)) else none) (fun k => ?_) (Ev.bind ih' (ev_pos hsz ?_))
      · simp only [spec_l1num.f]
        rw [if_neg (by omega), e3, if_pos (by omega), e1, e2]
      · rw [numL_snoc, c, str_append]; exact Ev.now _
    · refine Ev.step (f := fun k => (spec_l1num.f k ((u / 2 : Nat) : Int) (n : Int)).bind fun t => if t.size + 1 ≤ 9223372036854775807 then some (t ++ (⟨#[48]⟩ : ByteArray)) else none) (fun k => ?_) (Ev.bind ih' (ev_pos hsz ?_))
      · simp only [spec_l1num.f]
        rw [if_neg (by omega), e3, if_neg (by omega), e1, e2]
      · rw [numL_snoc, show u % 2 = 0 by omega, str_append]; exact Ev.now _
theorem l1flag_eq (b : Bool) : spec_l1flag.f b = some (strOfNums (flagL b)) := by cases b <;> rfl
end Go.Proofs.Ytogedkkdhonmlaa.P

namespace Go.Proofs.Ytogedkkdhonmlaa.P
open Go.RowKit Go.Proofs.YtogedkkdhonmlaaW.PrintWords Go.Proofs.YtogedkkdhonmlaaW.PrintLast Go.Proofs.YtogedkkdhonmlaaW.PrintMore
attribute [local go_sem] max2_int min2_int max_two min_two max_three min_three max_four min_four
set_option linter.unusedVariables false
set_option linter.unusedSimpArgs false

-- GIVEN rounds=0 making=1 import=Derived.Test.YtogedkkdhonmlaaText import=Derived.Test.YtogedkkdhonmlaaNum import=Derived.Deep.QuietTactic import=Derived.BigQuiet
/-! ### spec_Body: function 39 -/
def spec_Body.f (a0_0 : Bool) (a0_1 : Int) (a0_2 : Bool) (a0_3 : Int) (l0_4 : List Int) : Option (ByteArray) := if 0 ≤ a0_1 ∧ okBytes l0_4 = true then some (bodyV a0_0 a0_1 a0_2 a0_3 l0_4) else none
theorem spec_l1num.at (x y : Int) (u n : Nat) (w : World) (hx : x = (u : Int)) (hu : u < 4294967296) (hy : y = (n : Int)) (hn : n ≤ 64) :
    Calls Try.prog 67 #[.int .i64 x, .int .i64 y] w fun e w' => e = .returned (.string (strOfNums (numL u n))) ∧ ∃ m, w' = w.drewN m := by
  subst hx hy
  obtain ⟨k, hk⟩ := (l1num_ev n u hu hn).rounds
  exact (spec_l1num.calls k _ _ _ w hk).mono fun e w' ⟨he, hd⟩ => ⟨he, hd.out⟩
theorem spec_l1flag.at (b : Bool) (w : World) :
    Calls Try.prog 68 #[.bool b] w fun e w' => e = .returned (.string (strOfNums (flagL b))) ∧ ∃ m, w' = w.drewN m :=
  (spec_l1flag.calls b _ w (l1flag_eq b)).mono fun e w' ⟨he, hd⟩ => ⟨he, hd.out⟩
theorem spec_ValidFrame.at (ext : Bool) (id : Int) (rtr : Bool) (dlc : Int) (A : Option Addr) (c : Nat) (l : List Int) (w : World) (hr : Kd.C (Kd.int .u8) w A l.length l) (hc : l.length ≤ c) (b : Bool) (hv : validF ext id rtr dlc l.length = b) :
    Calls Try.prog 27 #[.agg #[.bool ext, .int .u32 id, .bool rtr, .int .i64 dlc, .slice A l.length c]] w fun e w' => e = .returned (.bool b) ∧ Below w.heap.size w w' := by
  subst hv
  obtain ⟨k, hk⟩ := (specValid_ev ext id rtr dlc l).rounds
  exact spec_ValidFrame.calls k ext id rtr dlc A c l _ w hr hc hk
theorem below_drewN {B : Nat} {a w : World} (h : Below B a w) (n : Nat) : Below B a (w.drewN n) := ⟨h.os, h.tape, h.output, h.size, h.block⟩
theorem str0 : (⟨#[48]⟩ : ByteArray) = strOfNums [48] := rfl
theorem str1 : (⟨#[49]⟩ : ByteArray) = strOfNums [49] := rfl
theorem str00 : (⟨#[48, 48]⟩ : ByteArray) = strOfNums [48, 48] := rfl
theorem text_base (id : Int) (rtr : Bool) : (⟨#[48]⟩ : ByteArray) ++ strOfNums (numL id.toNat 11) ++ strOfNums (flagL rtr) ++ ⟨#[48]⟩ ++ ⟨#[48]⟩ = strOfNums (headL false id rtr) := by
  rw [str0, ← str_append, ← str_append, ← str_append, ← str_append]
  congr 1
theorem text_ext29 (id : Int) (rtr : Bool) : (⟨#[48]⟩ : ByteArray) ++ strOfNums (numL (id.toNat / 262144) 11) ++ ⟨#[49]⟩ ++ ⟨#[49]⟩ ++ strOfNums (numL id.toNat 18) ++ strOfNums (flagL rtr) ++ ⟨#[48, 48]⟩ = strOfNums (headL true id rtr) := by
  rw [str0, str1, str00, ← str_append, ← str_append, ← str_append, ← str_append, ← str_append, ← str_append]
  congr 1
theorem num29 (u : Nat) : numL u 29 = numL (u / 262144) 11 ++ numL u 18 := numL_add u 11 18
theorem text_left (u : Nat) : (strOfNums (numL u 29)).extract 0 11 = strOfNums (numL (u / 262144) 11) := by
  rw [num29]
  have := str_extract_left (numL (u / 262144) 11) (numL u 18)
  rw [numL_length] at this
  exact this
theorem text_right (u : Nat) : (strOfNums (numL u 29)).extract 11 29 = strOfNums (numL u 18) := by
  have h := str_extract_right (numL (u / 262144) 11) (numL u 18)
  rw [← num29, numL_length, strOfNums_size, numL_length] at h
  exact h
set_option maxHeartbeats 4000000 in
theorem spec_Body.yes (ext : Bool) (id : Int) (rtr : Bool) (dlc : Int) (A : Option Addr) (c : Nat) (l : List Int) (w : World) (hr : Kd.C (Kd.int .u8) w A l.length l) (hc : l.length ≤ c) (h0 : 0 ≤ id) (hb : okBytes l = true) (hv : validF ext id rtr dlc l.length = true) :
    Calls Try.prog 39 #[.agg #[.bool ext, .int .u32 id, .bool rtr, .int .i64 dlc, .slice A l.length c]] w fun e w' => e = .returned (.string (strOfNums (bodyL ext id rtr dlc l))) ∧ Below w.heap.size w w' := by
  obtain ⟨hid, hd0, hd1, -, hn8⟩ := valid_parts hv
  have HV := Lib.hid hv
  have HR := Lib.hid hr
  have HC := Lib.hid hc
  have HOB := Lib.hid hb
  have hid2 : id < 536870912 := by unfold vtop at hid; split at hid <;> omega
  have HID : Hid (ext = false → id < 2048) := Lib.hid (fun e => by rw [e] at hid; exact hid)
  have HU : Hid (id = (id.toNat : Int)) := Lib.hid (by omega)
  have HD : Hid (dlc = (dlc.toNat : Int)) := Lib.hid (by omega)
  have HL : Hid (l.length ≤ 8) := Lib.hid hn8
  have HM8 : Hid (l.length ≤ 9223372036854775807) := Lib.hid hr.2.1
  clear hv hr hc hb hid hn8
  cases ext
  · go_enter Try.func39, Try.ntmps39
    go_wp2_with (fail)
    (refine (spec_ValidFrame.at false id rtr dlc A c l _ (Kd.C_below HR.out ((Below.refl _ _).alloc (Nat.le_refl _) _)) HC.out true HV.out).mono ?_; rintro e w1 ⟨rfl, hb1⟩; have HB1 : Hid (Below w.heap.size w w1) := Lib.hid (Below.trans ((Below.refl _ _).alloc (Nat.le_refl _) _) (hb1.mono (by simp))); have HBOX := Lib.hid (blk_below (blk_new w _) hb1); clear hb1; have hc0 := blk_cell HBOX.out 0; have hc1 := blk_cell HBOX.out 1; have hc2 := blk_cell HBOX.out 2; have hc3 := blk_cell HBOX.out 3; have hc4 := blk_cell HBOX.out 4; simp only [box5_0, box5_1, box5_2, box5_3, box5_4] at hc0 hc1 hc2 hc3 hc4)
    go_wp2_with (fail)
    have hw : IntKind.i64.wrap id = id := by rw [IntKind.wrap_i64]; omega
    have hs1 : (strOfNums (numL id.toNat 11)).size = 11 := by rw [strOfNums_size, numL_length]
    have hs2 : (strOfNums (flagL rtr)).size = 1 := by rw [strOfNums_size]; rfl
    go_quiet ((first | (go_at_call 67; exact Calls.quiet_of (spec_l1num.at _ 11 id.toNat 11 _ HU.out (by omega) rfl (by omega))) | (go_at_call 68; exact Calls.quiet_of (spec_l1flag.at _ _))))
    go_wp2_with (fail)
    rw [text_base]
    (refine (spec_l1num.at dlc 4 dlc.toNat 4 _ HD.out (by omega) rfl (by omega)).mono ?_; rintro e w2 ⟨rfl, m2, rfl⟩)
    have HS1 : (strOfNums (headL false id rtr)).size ≤ 35 := by rw [strOfNums_size]; exact headL_length _ _ _
    have HS2 : (strOfNums (numL dlc.toNat 4)).size = 4 := by rw [strOfNums_size, numL_length]
    go_wp2_with (fail)
    have HBL := below_drewN HB1.out
    have HBX := HBOX.out
    clear hc0 hc1 hc2 hc3 hc4 HBOX
    go_loopw [5, 3] (fun v5 v3 wr => ∃ (i : Nat), i ≤ l.length ∧ v5 = .int .i64 i ∧ v3 = .string (strOfNums (headL false id rtr ++ (numL dlc.toNat 4 ++ dataL (l.take i)))) ∧ Aside0 (Below w.heap.size w wr) ∧ Aside0 (wr.heap[w.heap.size]? = some (.cells #[.bool false, .int .u32 id, .bool rtr, .int .i64 dlc, .slice A l.length c] 43 (0, 0)))) (fun v5 _ _ => l.length - (intOf v5).toNat)
    case atStart => exact ⟨0, Nat.zero_le _, rfl, by rw [← str_append, List.take_zero]; simp [dataL], ⟨HBL _⟩, ⟨HBX⟩⟩
    case round =>
      obtain ⟨i, hi, rfl, rfl, HB, HBOX⟩ := hrel
      have hc0 := blk_cell HBOX.out 0; have hc1 := blk_cell HBOX.out 1; have hc2 := blk_cell HBOX.out 2; have hc3 := blk_cell HBOX.out 3; have hc4 := blk_cell HBOX.out 4; simp only [box5_0, box5_1, box5_2, box5_3, box5_4] at hc0 hc1 hc2 hc3 hc4
      have hsz : (strOfNums (headL false id rtr ++ (numL dlc.toNat 4 ++ dataL (l.take i)))).size ≤ 103 := by
        have h1 := headL_length false id rtr; have h2 := dataL_length (l.take i); have h3 := HL.out; rw [strOfNums_size]; simp [numL_length] at h1 h2 ⊢; omega
      by_cases hlt : i < l.length
      · obtain ⟨ad, ea, hcell⟩ := Kd.at_int (Kd.C_below HR.out HB.out) (i : Int) (by omega) (by omega)
        subst ea
        have HBY := Lib.hid (okBytes_at HOB.out i hlt)
        have HX : Hid (rd l (i : Int) = ((rd l (i : Int)).toNat : Int)) := Lib.hid (by have := HBY.out; omega)
        rw [HX.out, Int.toNat_natCast] at hcell
        generalize hxx : (rd l (i : Int)).toNat = x at hcell
        have HXX : Hid (x = (rd l (i : Int)).toNat ∧ x < 256) := Lib.hid ⟨hxx.symm, by have := HBY.out; omega⟩
        have hx256 : x < 256 := HXX.out.2
        have hm8 := HM8.out
        clear hxx
        go_wp2_with (fail)
        (refine (spec_l1num.at (x : Int) 8 x 8 _ rfl (by omega) rfl (by omega)).mono ?_; rintro e w3 ⟨rfl, m3, rfl⟩)
        have HS3 : (strOfNums (numL x 8)).size = 8 := by rw [strOfNums_size, numL_length]
        go_wp2_with (fail)
        go_roundw
        case rel => exact ⟨i + 1, hlt, by go_num, by rw [← str_append, take_next l i hlt, dataL_snoc, HXX.out.1]; simp only [List.append_assoc], ⟨below_drewN HB.out _⟩, ⟨HBOX.out⟩⟩
        case measure => simp [intOf]; omega
      · obtain rfl : i = l.length := by omega
        go_wp2_with (fail)
        go_ret
        exact ⟨by rw [List.take_length]; unfold bodyL; rw [List.append_assoc]; rfl, HB.out⟩
  · go_enter Try.func39, Try.ntmps39
    go_wp2_with (fail)
    (refine (spec_ValidFrame.at true id rtr dlc A c l _ (Kd.C_below HR.out ((Below.refl _ _).alloc (Nat.le_refl _) _)) HC.out true HV.out).mono ?_; rintro e w1 ⟨rfl, hb1⟩; have HB1 : Hid (Below w.heap.size w w1) := Lib.hid (Below.trans ((Below.refl _ _).alloc (Nat.le_refl _) _) (hb1.mono (by simp))); have HBOX := Lib.hid (blk_below (blk_new w _) hb1); clear hb1; have hc0 := blk_cell HBOX.out 0; have hc1 := blk_cell HBOX.out 1; have hc2 := blk_cell HBOX.out 2; have hc3 := blk_cell HBOX.out 3; have hc4 := blk_cell HBOX.out 4; simp only [box5_0, box5_1, box5_2, box5_3, box5_4] at hc0 hc1 hc2 hc3 hc4)
    go_wp2_with (fail)
    have hw : IntKind.i64.wrap id = id := by rw [IntKind.wrap_i64]; omega
    (refine (spec_l1num.at id 29 id.toNat 29 _ HU.out (by omega) rfl (by omega)).mono ?_; rintro e wn ⟨rfl, mn, rfl⟩)
    have hs2 : (strOfNums (flagL rtr)).size = 1 := by rw [strOfNums_size]; rfl
    have hs3 : (strOfNums (numL id.toNat 29)).size = 29 := by rw [strOfNums_size, numL_length]
    have hs4 : (strOfNums (numL (id.toNat / 262144) 11)).size = 11 := by rw [strOfNums_size, numL_length]
    have hs5 : (strOfNums (numL id.toNat 18)).size = 18 := by rw [strOfNums_size, numL_length]
    have hx1 : (strOfNums (numL id.toNat 29)).extract 0 11 = strOfNums (numL (id.toNat / 262144) 11) := text_left id.toNat
    have hx2 : (strOfNums (numL id.toNat 29)).extract 11 29 = strOfNums (numL id.toNat 18) := text_right id.toNat
    go_wp2_with (fail)
    obtain ⟨W, hW⟩ : ∃ W, W = w1.drewN mn := ⟨_, rfl⟩
    rw [← hW]
    (have HBX : Hid (W.heap[w.heap.size]? = some (.cells #[.bool true, .int .u32 id, .bool rtr, .int .i64 dlc, .slice A l.length c] 43 (0, 0))) := Lib.hid (by rw [hW]; exact HBOX.out); have HBW : Hid (Below w.heap.size w W) := Lib.hid (by rw [hW]; exact below_drewN HB1.out _); clear hc0 hc1 hc2 hc3 hc4 hW HBOX HB1; have HBOX := HBX; have HB1 := HBW; clear HBX HBW; have hc0 := blk_cell HBOX.out 0; have hc1 := blk_cell HBOX.out 1; have hc2 := blk_cell HBOX.out 2; have hc3 := blk_cell HBOX.out 3; have hc4 := blk_cell HBOX.out 4; simp only [box5_0, box5_1, box5_2, box5_3, box5_4] at hc0 hc1 hc2 hc3 hc4)
    go_quiet ((first | (go_at_call 68; exact Calls.quiet_of (spec_l1flag.at _ _))))
    go_wp2_with (fail)
    rw [text_ext29]
    (refine (spec_l1num.at dlc 4 dlc.toNat 4 _ HD.out (by omega) rfl (by omega)).mono ?_; rintro e w2 ⟨rfl, m2, rfl⟩)
    have HS1 : (strOfNums (headL true id rtr)).size ≤ 35 := by rw [strOfNums_size]; exact headL_length _ _ _
    have HS2 : (strOfNums (numL dlc.toNat 4)).size = 4 := by rw [strOfNums_size, numL_length]
    go_wp2_with (fail)
    have HBL := below_drewN HB1.out
    have HBX := HBOX.out
    clear hc0 hc1 hc2 hc3 hc4 HBOX
    go_loopw [5, 3] (fun v5 v3 wr => ∃ (i : Nat), i ≤ l.length ∧ v5 = .int .i64 i ∧ v3 = .string (strOfNums (headL true id rtr ++ (numL dlc.toNat 4 ++ dataL (l.take i)))) ∧ Aside0 (Below w.heap.size w wr) ∧ Aside0 (wr.heap[w.heap.size]? = some (.cells #[.bool true, .int .u32 id, .bool rtr, .int .i64 dlc, .slice A l.length c] 43 (0, 0)))) (fun v5 _ _ => l.length - (intOf v5).toNat)
    case atStart => exact ⟨0, Nat.zero_le _, rfl, by rw [← str_append, List.take_zero]; simp [dataL], ⟨HBL _⟩, ⟨HBX⟩⟩
    case round =>
      obtain ⟨i, hi, rfl, rfl, HB, HBOX⟩ := hrel
      have hc0 := blk_cell HBOX.out 0; have hc1 := blk_cell HBOX.out 1; have hc2 := blk_cell HBOX.out 2; have hc3 := blk_cell HBOX.out 3; have hc4 := blk_cell HBOX.out 4; simp only [box5_0, box5_1, box5_2, box5_3, box5_4] at hc0 hc1 hc2 hc3 hc4
      have hsz : (strOfNums (headL true id rtr ++ (numL dlc.toNat 4 ++ dataL (l.take i)))).size ≤ 103 := by
        have h1 := headL_length true id rtr; have h2 := dataL_length (l.take i); have h3 := HL.out; rw [strOfNums_size]; simp [numL_length] at h1 h2 ⊢; omega
      by_cases hlt : i < l.length
      · obtain ⟨ad, ea, hcell⟩ := Kd.at_int (Kd.C_below HR.out HB.out) (i : Int) (by omega) (by omega)
        subst ea
        have HBY := Lib.hid (okBytes_at HOB.out i hlt)
        have HX : Hid (rd l (i : Int) = ((rd l (i : Int)).toNat : Int)) := Lib.hid (by have := HBY.out; omega)
        rw [HX.out, Int.toNat_natCast] at hcell
        generalize hxx : (rd l (i : Int)).toNat = x at hcell
        have HXX : Hid (x = (rd l (i : Int)).toNat ∧ x < 256) := Lib.hid ⟨hxx.symm, by have := HBY.out; omega⟩
        have hx256 : x < 256 := HXX.out.2
        have hm8 := HM8.out
        clear hxx
        go_wp2_with (fail)
        (refine (spec_l1num.at (x : Int) 8 x 8 _ rfl (by omega) rfl (by omega)).mono ?_; rintro e w3 ⟨rfl, m3, rfl⟩)
        have HS3 : (strOfNums (numL x 8)).size = 8 := by rw [strOfNums_size, numL_length]
        go_wp2_with (fail)
        go_roundw
        case rel => exact ⟨i + 1, hlt, by go_num, by rw [← str_append, take_next l i hlt, dataL_snoc, HXX.out.1]; simp only [List.append_assoc], ⟨below_drewN HB.out _⟩, ⟨HBOX.out⟩⟩
        case measure => simp [intOf]; omega
      · obtain rfl : i = l.length := by omega
        go_wp2_with (fail)
        go_ret
        exact ⟨by rw [List.take_length]; unfold bodyL; rw [List.append_assoc]; rfl, HB.out⟩
theorem spec_Body.calls (a0_0 : Bool) (a0_1 : Int) (a0_2 : Bool) (a0_3 : Int) (A0_4 : Option Addr) (c0_4 : Nat) (l0_4 : List Int) (r : ByteArray) (w : World) (hr0_4 : Kd.C (Kd.int .u8) w A0_4 l0_4.length l0_4) (hc0_4 : l0_4.length ≤ c0_4) (h : spec_Body.f a0_0 a0_1 a0_2 a0_3 l0_4 = some r) :
    Calls Try.prog 39 #[.agg #[.bool a0_0, .int .u32 a0_1, .bool a0_2, .int .i64 a0_3, .slice A0_4 l0_4.length c0_4]] w fun e w' => e = .returned (.string r) ∧ Below w.heap.size w w' := by
  unfold spec_Body.f at h
  by_cases c : 0 ≤ a0_1 ∧ okBytes l0_4 = true
  · rw [if_pos c] at h
    have hr := (Option.some.inj h).symm
    unfold bodyV at hr
    cases hv : validF a0_0 a0_1 a0_2 a0_3 l0_4.length with
    | true =>
      rw [hv, if_pos rfl] at hr
      subst hr
      exact spec_Body.yes a0_0 a0_1 a0_2 a0_3 A0_4 c0_4 l0_4 w hr0_4 hc0_4 c.1 c.2 hv
    | false =>
      rw [hv] at hr
      subst hr
      have HV := Lib.hid hv
      have HR := Lib.hid hr0_4
      have HC := Lib.hid hc0_4
      have HM8 : Hid (l0_4.length ≤ 9223372036854775807) := Lib.hid hr0_4.2.1
      clear hr0_4 hc0_4 hv c h
      go_enter Try.func39, Try.ntmps39
      go_wp2_with (fail)
      (refine (spec_ValidFrame.at a0_0 a0_1 a0_2 a0_3 A0_4 c0_4 l0_4 _ (Kd.C_below HR.out ((Below.refl _ _).alloc (Nat.le_refl _) _)) HC.out false HV.out).mono ?_; rintro e w1 ⟨rfl, hb1⟩; have HB1 : Hid (Below w.heap.size w w1) := Lib.hid (Below.trans ((Below.refl _ _).alloc (Nat.le_refl _) _) (hb1.mono (by simp))); clear hb1)
      go_wp2_with (fail)
      go_ret
      exact ⟨rfl, HB1.out⟩
  · rw [if_neg c] at h
    cases h

end Go.Proofs.Ytogedkkdhonmlaa.P

namespace Go.Proofs.Ytogedkkdhonmlaa.P
open Go.RowKit Go.Proofs.YtogedkkdhonmlaaW.PrintWords Go.Proofs.YtogedkkdhonmlaaW.PrintLast Go.Proofs.YtogedkkdhonmlaaW.PrintMore
attribute [local go_sem] max2_int min2_int max_two min_two max_three min_three max_four min_four
set_option linter.unusedVariables false
set_option linter.unusedSimpArgs false

/-! ### spec_Encode: function 44 -/
def spec_Encode.f (k : Nat) (a0_0 : Bool) (a0_1 : Int) (a0_2 : Bool) (a0_3 : Int) (l0_4 : List Int) : Option (ByteArray) := (spec_ValidFrame.f k a0_0 a0_1 a0_2 a0_3 l0_4).bind fun t159 => (if t159 = true then ((spec_Body.f a0_0 a0_1 a0_2 a0_3 l0_4).bind fun t160 => ((spec_Crc15.f k t160).bind fun t161 => ((spec_l1num.f k t161 15).bind fun t162 => (if t160.size + t162.size ≤ 9223372036854775807 then ((spec_Stuff.f k (t160 ++ t162)).bind fun t163 => (if t163.size + 1 ≤ 9223372036854775807 then (if (t163 ++ (⟨#[49]⟩ : ByteArray)).size + 1 ≤ 9223372036854775807 then (if ((t163 ++ (⟨#[49]⟩ : ByteArray)) ++ (⟨#[49]⟩ : ByteArray)).size + 1 ≤ 9223372036854775807 then (if (((t163 ++ (⟨#[49]⟩ : ByteArray)) ++ (⟨#[49]⟩ : ByteArray)) ++ (⟨#[49]⟩ : ByteArray)).size + 7 ≤ 9223372036854775807 then (some ((((t163 ++ (⟨#[49]⟩ : ByteArray)) ++ (⟨#[49]⟩ : ByteArray)) ++ (⟨#[49]⟩ : ByteArray)) ++ (⟨#[49, 49, 49, 49, 49, 49, 49]⟩ : ByteArray))) else (none)) else (none)) else (none)) else (none))) else (none))))) else (some (⟨#[]⟩ : ByteArray)))
theorem spec_Encode.mono : ∀ a0 a1 a2 a3 a4 k, LeO (spec_Encode.f k a0 a1 a2 a3 a4) (spec_Encode.f (k + 1) a0 a1 a2 a3 a4) := by
  intro a0 a1 a2 a3 a4 k
  unfold spec_Encode.f
  repeat' first
      | (with_reducible exact spec_Crc15.mono _ _)
      | (with_reducible exact spec_Stuff.mono _ _)
      | (with_reducible exact spec_ValidFrame.mono _ _ _ _ _ _)
      | (with_reducible exact spec_l1num.mono _ _ _)
      | (with_reducible exact LeO.refl _)
      | (with_reducible exact LeO.none _)
      | (with_reducible refine LeO.ite ?_ ?_)
      | (with_reducible refine LeO.bind ?_ (fun _ => ?_))
      | exact spec_Crc15.mono _ _
      | exact spec_Stuff.mono _ _
      | exact spec_ValidFrame.mono _ _ _ _ _ _
      | exact spec_l1num.mono _ _ _
      | exact LeO.none _
      | refine LeO.ite ?_ ?_
      | refine LeO.bind ?_ (fun _ => ?_)
set_option maxHeartbeats 8000000 in
set_option maxRecDepth 100000 in
theorem spec_Encode.calls (k : Nat) (a0_0 : Bool) (a0_1 : Int) (a0_2 : Bool) (a0_3 : Int) (A0_4 : Option Addr) (c0_4 : Nat) (l0_4 : List Int) (r : ByteArray) (w : World) (hr0_4 : Kd.C (Kd.int .u8) w A0_4 l0_4.length l0_4) (hc0_4 : l0_4.length ≤ c0_4) (h : spec_Encode.f k a0_0 a0_1 a0_2 a0_3 l0_4 = some r) :
    Calls Try.prog 44 #[.agg #[.bool a0_0, .int .u32 a0_1, .bool a0_2, .int .i64 a0_3, .slice A0_4 l0_4.length c0_4]] w fun e w' => e = .returned (.string r) ∧ Below w.heap.size w w' := by
  have hu43 := Try.underlying43
  have HR0_4 := Aside0.mk hr0_4
  have HC0_4 := Aside0.mk hc0_4
  clear hr0_4 hc0_4
  have HB := Aside0.mk (Below.refl w.heap.size w)
  have H : ((spec_ValidFrame.f k a0_0 a0_1 a0_2 a0_3 l0_4).bind fun t159 => (if t159 = true then ((spec_Body.f a0_0 a0_1 a0_2 a0_3 l0_4).bind fun t160 => ((spec_Crc15.f k t160).bind fun t161 => ((spec_l1num.f k t161 15).bind fun t162 => (if t160.size + t162.size ≤ 9223372036854775807 then ((spec_Stuff.f k (t160 ++ t162)).bind fun t163 => (if t163.size + 1 ≤ 9223372036854775807 then (if (t163 ++ (⟨#[49]⟩ : ByteArray)).size + 1 ≤ 9223372036854775807 then (if ((t163 ++ (⟨#[49]⟩ : ByteArray)) ++ (⟨#[49]⟩ : ByteArray)).size + 1 ≤ 9223372036854775807 then (if (((t163 ++ (⟨#[49]⟩ : ByteArray)) ++ (⟨#[49]⟩ : ByteArray)) ++ (⟨#[49]⟩ : ByteArray)).size + 7 ≤ 9223372036854775807 then (some ((((t163 ++ (⟨#[49]⟩ : ByteArray)) ++ (⟨#[49]⟩ : ByteArray)) ++ (⟨#[49]⟩ : ByteArray)) ++ (⟨#[49, 49, 49, 49, 49, 49, 49]⟩ : ByteArray))) else (none)) else (none)) else (none)) else (none))) else (none))))) else (some (⟨#[]⟩ : ByteArray)))) = some r := h
  clear h
  replace H := Option.bind_eq_some_iff.mp H
  obtain ⟨t159, A20, H⟩ := H
  replace H : (if t159 = true then ((spec_Body.f a0_0 a0_1 a0_2 a0_3 l0_4).bind fun t160 => ((spec_Crc15.f k t160).bind fun t161 => ((spec_l1num.f k t161 15).bind fun t162 => (if t160.size + t162.size ≤ 9223372036854775807 then ((spec_Stuff.f k (t160 ++ t162)).bind fun t163 => (if t163.size + 1 ≤ 9223372036854775807 then (if (t163 ++ (⟨#[49]⟩ : ByteArray)).size + 1 ≤ 9223372036854775807 then (if ((t163 ++ (⟨#[49]⟩ : ByteArray)) ++ (⟨#[49]⟩ : ByteArray)).size + 1 ≤ 9223372036854775807 then (if (((t163 ++ (⟨#[49]⟩ : ByteArray)) ++ (⟨#[49]⟩ : ByteArray)) ++ (⟨#[49]⟩ : ByteArray)).size + 7 ≤ 9223372036854775807 then (some ((((t163 ++ (⟨#[49]⟩ : ByteArray)) ++ (⟨#[49]⟩ : ByteArray)) ++ (⟨#[49]⟩ : ByteArray)) ++ (⟨#[49, 49, 49, 49, 49, 49, 49]⟩ : ByteArray))) else (none)) else (none)) else (none)) else (none))) else (none))))) else (some (⟨#[]⟩ : ByteArray))) = some r := H
  have A2 := Aside0.mk A20
  clear A20
  by_cases c3 : t159 = true
  · subst c3
    have H1 : ((spec_Body.f a0_0 a0_1 a0_2 a0_3 l0_4).bind fun t160 => ((spec_Crc15.f k t160).bind fun t161 => ((spec_l1num.f k t161 15).bind fun t162 => (if t160.size + t162.size ≤ 9223372036854775807 then ((spec_Stuff.f k (t160 ++ t162)).bind fun t163 => (if t163.size + 1 ≤ 9223372036854775807 then (if (t163 ++ (⟨#[49]⟩ : ByteArray)).size + 1 ≤ 9223372036854775807 then (if ((t163 ++ (⟨#[49]⟩ : ByteArray)) ++ (⟨#[49]⟩ : ByteArray)).size + 1 ≤ 9223372036854775807 then (if (((t163 ++ (⟨#[49]⟩ : ByteArray)) ++ (⟨#[49]⟩ : ByteArray)) ++ (⟨#[49]⟩ : ByteArray)).size + 7 ≤ 9223372036854775807 then (some ((((t163 ++ (⟨#[49]⟩ : ByteArray)) ++ (⟨#[49]⟩ : ByteArray)) ++ (⟨#[49]⟩ : ByteArray)) ++ (⟨#[49, 49, 49, 49, 49, 49, 49]⟩ : ByteArray))) else (none)) else (none)) else (none)) else (none))) else (none))))) = some r := by rw [if_pos rfl] at H; exact H
    clear H
    have H := H1
    clear H1
    replace H := Option.bind_eq_some_iff.mp H
    obtain ⟨t160, A40, H⟩ := H
    replace H : ((spec_Crc15.f k t160).bind fun t161 => ((spec_l1num.f k t161 15).bind fun t162 => (if t160.size + t162.size ≤ 9223372036854775807 then ((spec_Stuff.f k (t160 ++ t162)).bind fun t163 => (if t163.size + 1 ≤ 9223372036854775807 then (if (t163 ++ (⟨#[49]⟩ : ByteArray)).size + 1 ≤ 9223372036854775807 then (if ((t163 ++ (⟨#[49]⟩ : ByteArray)) ++ (⟨#[49]⟩ : ByteArray)).size + 1 ≤ 9223372036854775807 then (if (((t163 ++ (⟨#[49]⟩ : ByteArray)) ++ (⟨#[49]⟩ : ByteArray)) ++ (⟨#[49]⟩ : ByteArray)).size + 7 ≤ 9223372036854775807 then (some ((((t163 ++ (⟨#[49]⟩ : ByteArray)) ++ (⟨#[49]⟩ : ByteArray)) ++ (⟨#[49]⟩ : ByteArray)) ++ (⟨#[49, 49, 49, 49, 49, 49, 49]⟩ : ByteArray))) else (none)) else (none)) else (none)) else (none))) else (none)))) = some r := H
    have A4 := Aside0.mk A40
    clear A40
    replace H := Option.bind_eq_some_iff.mp H
    obtain ⟨t161, A50, H⟩ := H
    replace H : ((spec_l1num.f k t161 15).bind fun t162 => (if t160.size + t162.size ≤ 9223372036854775807 then ((spec_Stuff.f k (t160 ++ t162)).bind fun t163 => (if t163.size + 1 ≤ 9223372036854775807 then (if (t163 ++ (⟨#[49]⟩ : ByteArray)).size + 1 ≤ 9223372036854775807 then (if ((t163 ++ (⟨#[49]⟩ : ByteArray)) ++ (⟨#[49]⟩ : ByteArray)).size + 1 ≤ 9223372036854775807 then (if (((t163 ++ (⟨#[49]⟩ : ByteArray)) ++ (⟨#[49]⟩ : ByteArray)) ++ (⟨#[49]⟩ : ByteArray)).size + 7 ≤ 9223372036854775807 then (some ((((t163 ++ (⟨#[49]⟩ : ByteArray)) ++ (⟨#[49]⟩ : ByteArray)) ++ (⟨#[49]⟩ : ByteArray)) ++ (⟨#[49, 49, 49, 49, 49, 49, 49]⟩ : ByteArray))) else (none)) else (none)) else (none)) else (none))) else (none))) = some r := H
    have A5 := Aside0.mk A50
    clear A50
    replace H := Option.bind_eq_some_iff.mp H
    obtain ⟨t162, A60, H⟩ := H
    replace H : (if t160.size + t162.size ≤ 9223372036854775807 then ((spec_Stuff.f k (t160 ++ t162)).bind fun t163 => (if t163.size + 1 ≤ 9223372036854775807 then (if (t163 ++ (⟨#[49]⟩ : ByteArray)).size + 1 ≤ 9223372036854775807 then (if ((t163 ++ (⟨#[49]⟩ : ByteArray)) ++ (⟨#[49]⟩ : ByteArray)).size + 1 ≤ 9223372036854775807 then (if (((t163 ++ (⟨#[49]⟩ : ByteArray)) ++ (⟨#[49]⟩ : ByteArray)) ++ (⟨#[49]⟩ : ByteArray)).size + 7 ≤ 9223372036854775807 then (some ((((t163 ++ (⟨#[49]⟩ : ByteArray)) ++ (⟨#[49]⟩ : ByteArray)) ++ (⟨#[49]⟩ : ByteArray)) ++ (⟨#[49, 49, 49, 49, 49, 49, 49]⟩ : ByteArray))) else (none)) else (none)) else (none)) else (none))) else (none)) = some r := H
    have A6 := Aside0.mk A60
    clear A60
    by_cases c7 : t160.size + t162.size ≤ 9223372036854775807
    · rw [if_pos c7] at H
      have c7b0 := eq_true c7
      have c7b1 : decide (t160.size + t162.size ≤ 9223372036854775807) = true := decide_eq_true c7
      try have c7b2 : (9223372036854775807 < t160.size + t162.size) = False := eq_false (Nat.not_lt.2 c7)
      replace H := Option.bind_eq_some_iff.mp H
      obtain ⟨t163, A80, H⟩ := H
      replace H : (if t163.size + 1 ≤ 9223372036854775807 then (if (t163 ++ (⟨#[49]⟩ : ByteArray)).size + 1 ≤ 9223372036854775807 then (if ((t163 ++ (⟨#[49]⟩ : ByteArray)) ++ (⟨#[49]⟩ : ByteArray)).size + 1 ≤ 9223372036854775807 then (if (((t163 ++ (⟨#[49]⟩ : ByteArray)) ++ (⟨#[49]⟩ : ByteArray)) ++ (⟨#[49]⟩ : ByteArray)).size + 7 ≤ 9223372036854775807 then (some ((((t163 ++ (⟨#[49]⟩ : ByteArray)) ++ (⟨#[49]⟩ : ByteArray)) ++ (⟨#[49]⟩ : ByteArray)) ++ (⟨#[49, 49, 49, 49, 49, 49, 49]⟩ : ByteArray))) else (none)) else (none)) else (none)) else (none)) = some r := H
      have A8 := Aside0.mk A80
      clear A80
      by_cases c9 : t163.size + 1 ≤ 9223372036854775807
      · rw [if_pos c9] at H
        have c9b0 := eq_true c9
        have c9b1 : decide (t163.size + 1 ≤ 9223372036854775807) = true := decide_eq_true c9
        try have c9b2 : (9223372036854775807 < t163.size + 1) = False := eq_false (Nat.not_lt.2 c9)
        by_cases c10 : (t163 ++ (⟨#[49]⟩ : ByteArray)).size + 1 ≤ 9223372036854775807
        · rw [if_pos c10] at H
          have c10b0 := eq_true c10
          have c10b1 : decide ((t163 ++ (⟨#[49]⟩ : ByteArray)).size + 1 ≤ 9223372036854775807) = true := decide_eq_true c10
          try have c10b2 : (9223372036854775807 < (t163 ++ (⟨#[49]⟩ : ByteArray)).size + 1) = False := eq_false (Nat.not_lt.2 c10)
          by_cases c11 : ((t163 ++ (⟨#[49]⟩ : ByteArray)) ++ (⟨#[49]⟩ : ByteArray)).size + 1 ≤ 9223372036854775807
          · rw [if_pos c11] at H
            have c11b0 := eq_true c11
            have c11b1 : decide (((t163 ++ (⟨#[49]⟩ : ByteArray)) ++ (⟨#[49]⟩ : ByteArray)).size + 1 ≤ 9223372036854775807) = true := decide_eq_true c11
            try have c11b2 : (9223372036854775807 < ((t163 ++ (⟨#[49]⟩ : ByteArray)) ++ (⟨#[49]⟩ : ByteArray)).size + 1) = False := eq_false (Nat.not_lt.2 c11)
            by_cases c12 : (((t163 ++ (⟨#[49]⟩ : ByteArray)) ++ (⟨#[49]⟩ : ByteArray)) ++ (⟨#[49]⟩ : ByteArray)).size + 7 ≤ 9223372036854775807
            · rw [if_pos c12] at H
              have c12b0 := eq_true c12
              have c12b1 : decide ((((t163 ++ (⟨#[49]⟩ : ByteArray)) ++ (⟨#[49]⟩ : ByteArray)) ++ (⟨#[49]⟩ : ByteArray)).size + 7 ≤ 9223372036854775807) = true := decide_eq_true c12
              try have c12b2 : (9223372036854775807 < (((t163 ++ (⟨#[49]⟩ : ByteArray)) ++ (⟨#[49]⟩ : ByteArray)) ++ (⟨#[49]⟩ : ByteArray)).size + 7) = False := eq_false (Nat.not_lt.2 c12)
              have z12 : t163.size + 10 ≤ 9223372036854775807 := by
                have h := c12
                rw [ByteArray.size_append, ByteArray.size_append, ByteArray.size_append] at h
                change t163.size + 1 + 1 + 1 + 7 ≤ 9223372036854775807 at h
                omega
              obtain rfl := Option.some.inj H
              go_enter Try.func44, Try.ntmps44
              go_wp2_with (first | ((with_reducible refine gate_dst (N := 1) rfl ?_); refine box_event ?hg (N := 1) ?hd (cs := #[.bool a0_0, .int .u32 a0_1, .bool a0_2, .int .i64 a0_3, .slice A0_4 l0_4.length c0_4]) (t := 43) ?hr ?_; (case hd => rfl); (case hg => rfl); (case hr => first | (go_simp; done) | (go_simp; rfl)); intro gb158 hg w13 hbox hb; have n0_ := Aside0.mk (below_step (by repeat (first | (with_reducible first | exact HB.out | apply below_alloc | apply pw_below_drewN | apply below_drew1) | exact HB.out)) hb); have n1_ := Aside0.mk (hbox); have n2_ := Aside0.mk ((by rw [hg]; exact (below_size (by repeat (first | (with_reducible first | exact HB.out | apply below_alloc | apply pw_below_drewN | apply below_drew1) | exact HB.out))) : w.heap.size ≤ gb158)); have n3_ := Aside0.mk ((by rw [hg]; exact (below_size (by repeat (first | (with_reducible first | exact HB.out | apply below_alloc | apply pw_below_drewN | apply below_drew1) | exact HB.out))) : w.heap.size ≤ gb158)); clear HB; have HB := n0_; have BK158 := n1_; have GW158 := n2_; have GE158 := n3_; clear n0_ n1_ n2_ n3_; clear hb hbox hg; have hcz14_0 : w13.cell? ⟨gb158, 0, none⟩ = some (.bool a0_0) := (blk_cell BK158.out 0).trans rfl; have hcz14_1 : w13.cell? ⟨gb158, 1, none⟩ = some (.int .u32 a0_1) := (blk_cell BK158.out 1).trans rfl; have hcz14_2 : w13.cell? ⟨gb158, 2, none⟩ = some (.bool a0_2) := (blk_cell BK158.out 2).trans rfl; have hcz14_3 : w13.cell? ⟨gb158, 3, none⟩ = some (.int .i64 a0_3) := (blk_cell BK158.out 3).trans rfl; have hcz14_4 : w13.cell? ⟨gb158, 4, none⟩ = some (.slice A0_4 l0_4.length c0_4) := (blk_cell BK158.out 4).trans rfl; have hfz14_0 := blk_frozen BK158.out 0; have hfz14_1 := blk_frozen BK158.out 1; have hfz14_2 := blk_frozen BK158.out 2; have hfz14_3 := blk_frozen BK158.out 3; have hfz14_4 := blk_frozen BK158.out 4) | ((with_reducible refine gate_callee (f := 27) rfl ?_); refine goesL_ (some 5) rfl rfl Try.func27 (by kernel_rfl) rfl #[.agg #[.bool a0_0, .int .u32 a0_1, .bool a0_2, .int .i64 a0_3, .slice A0_4 l0_4.length c0_4]] rfl (by (try simp only [List.map_toArray, List.map_cons, List.map_nil]); first | done | rfl | (simp only [List.length_drop, List.length_take]; rfl)) ?_; (with_reducible refine (spec_ValidFrame.calls k a0_0 a0_1 a0_2 a0_3 _ _ l0_4 true _ ?side1 ?side2 A2.out).mono ?_); (case side1 => repeat (first | exact (Kd.C_below HR0_4.out HB.out) | (with_reducible refine Kd.C_alloc ?_ _) | (with_reducible refine Kd.C_drewN ?_ _) | (with_reducible refine Kd.C_drew ?_))); (case side2 => exact HC0_4.out); rintro e w15 ⟨rfl, hb⟩; refine ⟨_, rfl, ?_⟩; have n0_ := Aside0.mk (blk_below (g := gb158) (o := .cells #[.bool a0_0, .int .u32 a0_1, .bool a0_2, .int .i64 a0_3, .slice A0_4 l0_4.length c0_4] 43 (0, 0)) (by (with_reducible repeat (first | refine blk_drewN ?_ _ | refine blk_drew ?_ | refine blk_alloc ?_ _)); exact BK158.out) hb); have n1_ := Aside0.mk (below_step (by repeat (first | (with_reducible first | exact HB.out | apply below_alloc | apply pw_below_drewN | apply below_drew1 | refine below_set ?_ GE158.out) | exact HB.out)) hb); clear BK158; clear HB; have BK158 := n0_; have HB := n1_; clear n0_ n1_; (try clear hb); (try clear hb2); (try clear hk); (try clear hi); have hcz16_0 : w15.cell? ⟨gb158, 0, none⟩ = some (.bool a0_0) := (blk_cell BK158.out 0).trans rfl; have hcz16_1 : w15.cell? ⟨gb158, 1, none⟩ = some (.int .u32 a0_1) := (blk_cell BK158.out 1).trans rfl; have hcz16_2 : w15.cell? ⟨gb158, 2, none⟩ = some (.bool a0_2) := (blk_cell BK158.out 2).trans rfl; have hcz16_3 : w15.cell? ⟨gb158, 3, none⟩ = some (.int .i64 a0_3) := (blk_cell BK158.out 3).trans rfl; have hcz16_4 : w15.cell? ⟨gb158, 4, none⟩ = some (.slice A0_4 l0_4.length c0_4) := (blk_cell BK158.out 4).trans rfl; have hfz16_0 := blk_frozen BK158.out 0; have hfz16_1 := blk_frozen BK158.out 1; have hfz16_2 := blk_frozen BK158.out 2; have hfz16_3 := blk_frozen BK158.out 3; have hfz16_4 := blk_frozen BK158.out 4) | ((with_reducible refine gate_callee (f := 39) rfl ?_); refine goesL_ (some 8) rfl rfl Try.func39 (by kernel_rfl) rfl #[.agg #[.bool a0_0, .int .u32 a0_1, .bool a0_2, .int .i64 a0_3, .slice A0_4 l0_4.length c0_4]] rfl (by (try simp only [List.map_toArray, List.map_cons, List.map_nil]); first | done | rfl | (simp only [List.length_drop, List.length_take]; rfl)) ?_; (with_reducible refine (spec_Body.calls a0_0 a0_1 a0_2 a0_3 _ _ l0_4 t160 _ ?side1 ?side2 A4.out).mono ?_); (case side1 => repeat (first | exact (Kd.C_below HR0_4.out HB.out) | (with_reducible refine Kd.C_alloc ?_ _) | (with_reducible refine Kd.C_drewN ?_ _) | (with_reducible refine Kd.C_drew ?_))); (case side2 => exact HC0_4.out); rintro e w17 ⟨rfl, hb⟩; refine ⟨_, rfl, ?_⟩; have n0_ := Aside0.mk (blk_below (g := gb158) (o := .cells #[.bool a0_0, .int .u32 a0_1, .bool a0_2, .int .i64 a0_3, .slice A0_4 l0_4.length c0_4] 43 (0, 0)) (by (with_reducible repeat (first | refine blk_drewN ?_ _ | refine blk_drew ?_ | refine blk_alloc ?_ _)); exact BK158.out) hb); have n1_ := Aside0.mk (below_step (by repeat (first | (with_reducible first | exact HB.out | apply below_alloc | apply pw_below_drewN | apply below_drew1 | refine below_set ?_ GE158.out) | exact HB.out)) hb); clear BK158; clear HB; have BK158 := n0_; have HB := n1_; clear n0_ n1_; (try clear hb); (try clear hb2); (try clear hk); (try clear hi)) | ((with_reducible refine gate_callee (f := 15) rfl ?_); refine goesL_ (some 11) rfl rfl Try.func15 (by kernel_rfl) rfl #[.string t160] rfl (by (try simp only [List.map_toArray, List.map_cons, List.map_nil]); first | done | rfl | (simp only [List.length_drop, List.length_take]; rfl)) ?_; (with_reducible refine (spec_Crc15.calls k t160 t161 _ A5.out).mono ?_); rintro e w18 ⟨rfl, hb⟩; refine ⟨_, rfl, ?_⟩; have n0_ := Aside0.mk (blk_below (g := gb158) (o := .cells #[.bool a0_0, .int .u32 a0_1, .bool a0_2, .int .i64 a0_3, .slice A0_4 l0_4.length c0_4] 43 (0, 0)) (by (with_reducible repeat (first | refine blk_drewN ?_ _ | refine blk_drew ?_ | refine blk_alloc ?_ _)); exact BK158.out) hb); have n1_ := Aside0.mk (below_step (by repeat (first | (with_reducible first | exact HB.out | apply below_alloc | apply pw_below_drewN | apply below_drew1 | refine below_set ?_ GE158.out) | exact HB.out)) hb); clear BK158; clear HB; have BK158 := n0_; have HB := n1_; clear n0_ n1_; (try clear hb); (try clear hb2); (try clear hk); (try clear hi)) | ((with_reducible refine gate_callee (f := 67) rfl ?_); refine goesL_ (some 12) rfl rfl Try.func67 (by kernel_rfl) rfl #[.int .i64 t161, .int .i64 15] rfl (by (try simp only [List.map_toArray, List.map_cons, List.map_nil]); first | done | rfl | (simp only [List.length_drop, List.length_take]; rfl)) ?_; (with_reducible refine (spec_l1num.calls k t161 15 t162 _ A6.out).mono ?_); rintro e w' ⟨rfl, ⟨nd, rfl⟩⟩; refine ⟨_, rfl, ?_⟩) | ((with_reducible refine gate_callee (f := 19) rfl ?_); refine goesL_ (some 14) rfl rfl Try.func19 (by kernel_rfl) rfl #[.string (t160 ++ t162)] rfl (by (try simp only [List.map_toArray, List.map_cons, List.map_nil]); first | done | rfl | (simp only [List.length_drop, List.length_take]; rfl)) ?_; (with_reducible refine (spec_Stuff.calls k (t160 ++ t162) t163 _ A8.out).mono ?_); rintro e w19 ⟨rfl, hb⟩; refine ⟨_, rfl, ?_⟩; have n0_ := Aside0.mk (blk_below (g := gb158) (o := .cells #[.bool a0_0, .int .u32 a0_1, .bool a0_2, .int .i64 a0_3, .slice A0_4 l0_4.length c0_4] 43 (0, 0)) (by (with_reducible repeat (first | refine blk_drewN ?_ _ | refine blk_drew ?_ | refine blk_alloc ?_ _)); exact BK158.out) hb); have n1_ := Aside0.mk (below_step (by repeat (first | (with_reducible first | exact HB.out | apply below_alloc | apply pw_below_drewN | apply below_drew1 | refine below_set ?_ GE158.out) | exact HB.out)) hb); clear BK158; clear HB; have BK158 := n0_; have HB := n1_; clear n0_ n1_; (try clear hb); (try clear hb2); (try clear hk); (try clear hi)))
              go_ret
              exact ⟨by first | rfl | (simp [errW_none, errW_some] <;> rfl) | (simp [*, errW_none, errW_some] <;> rfl), by repeat (first | (with_reducible first | exact HB.out | apply below_alloc | apply pw_below_drewN | apply below_drew1 | refine below_set ?_ GE158.out) | exact HB.out)⟩
            · rw [if_neg c12] at H
              exact absurd H (by simp)
          · rw [if_neg c11] at H
            exact absurd H (by simp)
        · rw [if_neg c10] at H
          exact absurd H (by simp)
      · rw [if_neg c9] at H
        exact absurd H (by simp)
    · rw [if_neg c7] at H
      exact absurd H (by simp)
  · replace c3 := Bool.eq_false_iff.mpr c3
    subst c3
    have H1 : (some (⟨#[]⟩ : ByteArray)) = some r := by rw [if_neg (show ¬ (false = true) by decide)] at H; exact H
    clear H
    have H := H1
    clear H1
    obtain rfl := Option.some.inj H
    go_enter Try.func44, Try.ntmps44
    go_wp2_with (first | ((with_reducible refine gate_dst (N := 1) rfl ?_); refine box_event ?hg (N := 1) ?hd (cs := #[.bool a0_0, .int .u32 a0_1, .bool a0_2, .int .i64 a0_3, .slice A0_4 l0_4.length c0_4]) (t := 43) ?hr ?_; (case hd => rfl); (case hg => rfl); (case hr => first | (go_simp; done) | (go_simp; rfl)); intro gb158 hg w20 hbox hb; have n0_ := Aside0.mk (below_step (by repeat (first | (with_reducible first | exact HB.out | apply below_alloc | apply pw_below_drewN | apply below_drew1) | exact HB.out)) hb); have n1_ := Aside0.mk (hbox); have n2_ := Aside0.mk ((by rw [hg]; exact (below_size (by repeat (first | (with_reducible first | exact HB.out | apply below_alloc | apply pw_below_drewN | apply below_drew1) | exact HB.out))) : w.heap.size ≤ gb158)); have n3_ := Aside0.mk ((by rw [hg]; exact (below_size (by repeat (first | (with_reducible first | exact HB.out | apply below_alloc | apply pw_below_drewN | apply below_drew1) | exact HB.out))) : w.heap.size ≤ gb158)); clear HB; have HB := n0_; have BK158 := n1_; have GW158 := n2_; have GE158 := n3_; clear n0_ n1_ n2_ n3_; clear hb hbox hg; have hcz21_0 : w20.cell? ⟨gb158, 0, none⟩ = some (.bool a0_0) := (blk_cell BK158.out 0).trans rfl; have hcz21_1 : w20.cell? ⟨gb158, 1, none⟩ = some (.int .u32 a0_1) := (blk_cell BK158.out 1).trans rfl; have hcz21_2 : w20.cell? ⟨gb158, 2, none⟩ = some (.bool a0_2) := (blk_cell BK158.out 2).trans rfl; have hcz21_3 : w20.cell? ⟨gb158, 3, none⟩ = some (.int .i64 a0_3) := (blk_cell BK158.out 3).trans rfl; have hcz21_4 : w20.cell? ⟨gb158, 4, none⟩ = some (.slice A0_4 l0_4.length c0_4) := (blk_cell BK158.out 4).trans rfl; have hfz21_0 := blk_frozen BK158.out 0; have hfz21_1 := blk_frozen BK158.out 1; have hfz21_2 := blk_frozen BK158.out 2; have hfz21_3 := blk_frozen BK158.out 3; have hfz21_4 := blk_frozen BK158.out 4) | ((with_reducible refine gate_callee (f := 27) rfl ?_); refine goesL_ (some 5) rfl rfl Try.func27 (by kernel_rfl) rfl #[.agg #[.bool a0_0, .int .u32 a0_1, .bool a0_2, .int .i64 a0_3, .slice A0_4 l0_4.length c0_4]] rfl (by (try simp only [List.map_toArray, List.map_cons, List.map_nil]); first | done | rfl | (simp only [List.length_drop, List.length_take]; rfl)) ?_; (with_reducible refine (spec_ValidFrame.calls k a0_0 a0_1 a0_2 a0_3 _ _ l0_4 false _ ?side1 ?side2 A2.out).mono ?_); (case side1 => repeat (first | exact (Kd.C_below HR0_4.out HB.out) | (with_reducible refine Kd.C_alloc ?_ _) | (with_reducible refine Kd.C_drewN ?_ _) | (with_reducible refine Kd.C_drew ?_))); (case side2 => exact HC0_4.out); rintro e w22 ⟨rfl, hb⟩; refine ⟨_, rfl, ?_⟩; have n0_ := Aside0.mk (blk_below (g := gb158) (o := .cells #[.bool a0_0, .int .u32 a0_1, .bool a0_2, .int .i64 a0_3, .slice A0_4 l0_4.length c0_4] 43 (0, 0)) (by (with_reducible repeat (first | refine blk_drewN ?_ _ | refine blk_drew ?_ | refine blk_alloc ?_ _)); exact BK158.out) hb); have n1_ := Aside0.mk (below_step (by repeat (first | (with_reducible first | exact HB.out | apply below_alloc | apply pw_below_drewN | apply below_drew1 | refine below_set ?_ GE158.out) | exact HB.out)) hb); clear BK158; clear HB; have BK158 := n0_; have HB := n1_; clear n0_ n1_; (try clear hb); (try clear hb2); (try clear hk); (try clear hi)))
    go_ret
    exact ⟨by first | rfl | (simp [errW_none, errW_some] <;> rfl) | (simp [*, errW_none, errW_some] <;> rfl), by repeat (first | (with_reducible first | exact HB.out | apply below_alloc | apply pw_below_drewN | apply below_drew1 | refine below_set ?_ GE158.out) | exact HB.out)⟩

end Go.Proofs.Ytogedkkdhonmlaa.P

namespace Go.Proofs.Ytogedkkdhonmlaa.P
open Go.RowKit Go.Proofs.YtogedkkdhonmlaaW.PrintWords Go.Proofs.YtogedkkdhonmlaaW.PrintLast Go.Proofs.YtogedkkdhonmlaaW.PrintMore
attribute [local go_sem] max2_int min2_int max_two min_two max_three min_three max_four min_four
set_option linter.unusedVariables false
set_option linter.unusedSimpArgs false

-- GIVEN rounds=0 making=1 import=Derived.Test.YtogedkkdhonmlaaOwn
/-! ### impl_bitText: function 47 -/
def impl_bitText.f (a0 : ByteArray) (a1 : Int) : Option (Bool) := some (decide ((a0.size : Int) ≤ a1) && isBits a0)
theorem impl_bitText.calls (a0 : ByteArray) (a1 : Int) (r : Bool) (w : World) (h : impl_bitText.f a0 a1 = some r) :
    Calls Try.prog 47 #[.string a0, .int .i64 a1] w fun e w' => e = .returned (.bool r) ∧ Below w.heap.size w w' := by
  by_cases c1 : (a0.size : Int) ≤ a1
  · have c1b : decide (a1 < (a0.size : Int)) = false := decide_eq_false (by omega)
    have hr : Hid (r = isBits a0) := by
      have h1 := Option.some.inj h
      rw [decide_eq_true c1, Bool.true_and] at h1
      exact Lib.hid h1.symm
    clear h c1
    go_enter Try.func47, Try.ntmps47
    go_wp2
    go_loopw [] (fun w' => ∃ pos : Nat, w' = w.iter a0 pos ∧ BitsTo a0 pos) (fun w' => a0.size - w'.iterPos w.heap.size)
    case atStart => exact ⟨0, rfl, bitsTo_zero a0⟩
    case round =>
      obtain ⟨pos, rfl, hb⟩ := hrel
      have HB := Lib.hid hb
      clear hb
      by_cases hp : pos < a0.size
      · cases hbit : isBit (a0[pos]'hp) with
        | true =>
          have HT : Hid (isBit (a0[pos]'hp) = true) := Lib.hid hbit
          rcases isBit_cases hbit with e | e
          · have hnx := fun ty => next_bit (P := Try.prog) w a0 pos ty hp (b := 48) (by rw [e]; rfl) (by omega)
            clear e hbit
            go_wp2
            go_roundw
            case rel => exact ⟨pos + 1, rfl, bitsTo_succ HB.out hp HT.out⟩
            case measure => simp; omega
          · have hnx := fun ty => next_bit (P := Try.prog) w a0 pos ty hp (b := 49) (by rw [e]; rfl) (by omega)
            clear e hbit
            go_wp2
            go_roundw
            case rel => exact ⟨pos + 1, rfl, bitsTo_succ HB.out hp HT.out⟩
            case measure => simp; omega
        | false =>
          have HF := Lib.hid (isBits_not a0 hp hbit)
          obtain ⟨h48, h49⟩ := decode_notBit a0 pos hp hbit
          have h48' : ((((Utf8.decode a0 pos).1 : Nat) : Int) != 48) = true := by rw [bne, h48]; rfl
          have h49' : ((((Utf8.decode a0 pos).1 : Nat) : Int) != 49) = true := by rw [bne, h49]; rfl
          have hnx := fun ty => run_next_any (P := Try.prog) w a0 pos ty hp
          clear hbit
          go_wp2
          go_ret
          exact ⟨by rw [hr.out, HF.out]; rfl, below_iter _ _ _⟩
      · have hnx := fun ty => run_next_end (P := Try.prog) w a0 pos ty hp
        have HF := Lib.hid (isBits_of a0 HB.out hp)
        go_wp2
        go_ret
        exact ⟨by rw [hr.out, HF.out]; rfl, below_iter _ _ _⟩
  · have c1b : decide (a1 < (a0.size : Int)) = true := decide_eq_true (by omega)
    have hr : r = false := by
      have h1 := Option.some.inj h
      rw [decide_eq_false c1, Bool.false_and] at h1
      exact h1.symm
    subst hr
    clear h c1
    go_enter Try.func47, Try.ntmps47
    go_wp2
    go_ret
    exact ⟨rfl, Below.refl _ _⟩

end Go.Proofs.Ytogedkkdhonmlaa.P

namespace Go.Proofs.Ytogedkkdhonmlaa.P
open Go.RowKit Go.Proofs.YtogedkkdhonmlaaW.PrintWords Go.Proofs.YtogedkkdhonmlaaW.PrintLast Go.Proofs.YtogedkkdhonmlaaW.PrintMore
attribute [local go_sem] max2_int min2_int max_two min_two max_three min_three max_four min_four
set_option linter.unusedVariables false
set_option linter.unusedSimpArgs false

-- GIVEN rounds=0 making=0 import=Derived.Test.YtogedkkdhonmlaaOwn
/-! ### impl_crcBit: function 48 -/
def impl_crcBit.f (a0 : Int) (a1 : Int) : Option (Int) := some (crcI a0 a1)
theorem impl_crcBit.same (a0 : Int) (a1 : Int) (w : World) :
    Calls Try.prog 48 #[.int .i64 a0, .int .i64 a1] w fun e w' => e = .returned (.int .i64 (crcI a0 a1)) ∧ w = w' := by
  by_cases c3 : (Go.bits .xor .i64 (Go.bits .and .i64 (a0 / 16384) 1) a1) = 1
  · have c3b0 : ((Go.bits .xor .i64 (Go.bits .and .i64 (a0 / 16384) 1) a1) == 1) = true := beq_iff_eq.mpr c3
    have HC := Lib.hid c3
    clear c3
    go_enter Try.func48, Try.ntmps48
    go_wp2
    go_ret
    exact ⟨by unfold crcI; rw [if_pos HC.out]; rfl, rfl⟩
  · have c3b0 : ((Go.bits .xor .i64 (Go.bits .and .i64 (a0 / 16384) 1) a1) == 1) = false := beq_eq_false_iff_ne.mpr c3
    have HC := Lib.hid c3
    clear c3
    go_enter Try.func48, Try.ntmps48
    go_wp2
    go_ret
    exact ⟨by unfold crcI; rw [if_neg HC.out]; rfl, rfl⟩
theorem impl_crcBit.calls (a0 : Int) (a1 : Int) (r : Int) (w : World) (h : impl_crcBit.f a0 a1 = some r) :
    Calls Try.prog 48 #[.int .i64 a0, .int .i64 a1] w fun e w' => e = .returned (.int .i64 r) ∧ Drawn0 w w' := by
  obtain rfl := Option.some.inj h
  exact (impl_crcBit.same a0 a1 w).mono fun e w' ⟨he, hw⟩ => ⟨he, hw ▸ Drawn0.refl _⟩

end Go.Proofs.Ytogedkkdhonmlaa.P

namespace Go.Proofs.Ytogedkkdhonmlaa.P
open Go.RowKit Go.Proofs.YtogedkkdhonmlaaW.PrintWords Go.Proofs.YtogedkkdhonmlaaW.PrintLast Go.Proofs.YtogedkkdhonmlaaW.PrintMore
attribute [local go_sem] max2_int min2_int max_two min_two max_three min_three max_four min_four
set_option linter.unusedVariables false
set_option linter.unusedSimpArgs false

-- GIVEN rounds=0 making=1 import=Derived.Test.YtogedkkdhonmlaaOwn
/-! ### impl_Crc15: function 16 -/
def impl_Crc15.f (a0 : ByteArray) : Option (Int) := some (if a0.size ≤ 2000 ∧ isBits a0 = true then crcOf a0 else -1)
theorem impl_Crc15.calls (a0 : ByteArray) (r : Int) (w : World) (h : impl_Crc15.f a0 = some r) :
    Calls Try.prog 16 #[.string a0] w fun e w' => e = .returned (.int .i64 r) ∧ Below w.heap.size w w' := by
  by_cases c : a0.size ≤ 2000 ∧ isBits a0 = true
  · have HR : Hid (r = crcOf a0) := Lib.hid ((Option.some.inj h).symm.trans (if_pos c))
    clear h
    have hbt : Hid (impl_bitText.f a0 2000 = some true) := by
      refine Lib.hid ?_
      unfold impl_bitText.f
      rw [c.2, decide_eq_true (by omega)]; rfl
    have HB := Lib.hid c.2
    clear c
    go_enter Try.func16, Try.ntmps16
    go_wp2_with (go_at_call 47; refine (impl_bitText.calls _ _ true _ hbt.out).mono ?_; rintro e w1 ⟨rfl, hb1⟩)
    have HW := Lib.hid hb1
    clear hb1
    go_loopw [3] (fun n w' => ∃ pos : Nat, w' = w1.iter a0 pos ∧ n = .int .i64 (foldTo (fun r c => crcI r (c - 48)) 0 a0 pos)) (fun _ w' => a0.size - w'.iterPos w1.heap.size)
    case atStart => exact ⟨0, rfl, by rw [foldTo_zero]⟩
    case round =>
      obtain ⟨pos, rfl, rfl⟩ := hrel
      by_cases hp : pos < a0.size
      · have hbit := isBits_at HB.out hp
        rcases isBit_cases hbit with e | e
        · have hs := Lib.hid (foldTo_succ (fun r c => crcI r (c - 48)) 0 a0 pos hp (b := 48) (by rw [e]; rfl))
          have hnx := fun ty => next_bit (P := Try.prog) w1 a0 pos ty hp (b := 48) (by rw [e]; rfl) (by omega)
          clear e hbit
          go_wp2_with (go_at_call 48; refine (impl_crcBit.same _ _ _).mono ?_; rintro e w' ⟨rfl, rfl⟩)
          go_roundw
          case rel => exact ⟨pos + 1, rfl, by rw [hs.out]; rfl⟩
          case measure => simp; omega
        · have hs := Lib.hid (foldTo_succ (fun r c => crcI r (c - 48)) 0 a0 pos hp (b := 49) (by rw [e]; rfl))
          have hnx := fun ty => next_bit (P := Try.prog) w1 a0 pos ty hp (b := 49) (by rw [e]; rfl) (by omega)
          clear e hbit
          go_wp2_with (go_at_call 48; refine (impl_crcBit.same _ _ _).mono ?_; rintro e w' ⟨rfl, rfl⟩)
          go_roundw
          case rel => exact ⟨pos + 1, rfl, by rw [hs.out]; rfl⟩
          case measure => simp; omega
      · have hnx := fun ty => run_next_end (P := Try.prog) w1 a0 pos ty hp
        have hs := Lib.hid (foldTo_end (fun r c => crcI r (c - 48)) 0 a0 pos hp)
        go_wp2
        go_ret
        exact ⟨by rw [HR.out]; unfold crcOf; rw [← hs.out]; rfl, HW.out.alloc HW.out.size _⟩
  · obtain rfl : r = -1 := (Option.some.inj h).symm.trans (if_neg c)
    clear h
    have hbt : Hid (impl_bitText.f a0 2000 = some false) := by
      refine Lib.hid ?_
      unfold impl_bitText.f
      congr 1
      rw [Bool.and_eq_false_iff]
      by_cases h : isBits a0 = true
      · exact .inl (decide_eq_false fun h2 => c ⟨by omega, h⟩)
      · exact .inr (by simpa using h)
    clear c
    go_enter Try.func16, Try.ntmps16
    go_wp2_with (go_at_call 47; refine (impl_bitText.calls _ _ false _ hbt.out).mono ?_; rintro e w1 ⟨rfl, hb1⟩)
    go_ret
    exact ⟨rfl, hb1⟩

end Go.Proofs.Ytogedkkdhonmlaa.P

namespace Go.Proofs.Ytogedkkdhonmlaa.P
open Go.RowKit Go.Proofs.YtogedkkdhonmlaaW.PrintWords Go.Proofs.YtogedkkdhonmlaaW.PrintLast Go.Proofs.YtogedkkdhonmlaaW.PrintMore
attribute [local go_sem] max2_int min2_int max_two min_two max_three min_three max_four min_four
set_option linter.unusedVariables false
set_option linter.unusedSimpArgs false

-- GIVEN rounds=0 making=1 import=Derived.Test.YtogedkkdhonmlaaWorld
/-! ### impl_Stuff: function 20 -/
def impl_Stuff.f (a0 : ByteArray) : Option (ByteArray) := some (if a0.size ≤ 2000 ∧ isBits a0 = true then strOfNums (stuffL (bytesOf a0)) else ⟨#[]⟩)
structure StuffAt (s : ByteArray) (pos : Nat) (out : List Int) (run last : Int) : Prop where mk :: (out : stuffTo s pos = (out, run, last))
theorem StuffAt.bounds {s : ByteArray} {pos : Nat} {out : List Int} {run last : Int} (h : StuffAt s pos out run last) : out.length ≤ 2 * pos ∧ 0 ≤ run ∧ run ≤ pos := by
  have := stuffTo_bounds s pos
  rw [h.out] at this
  exact this
set_option maxHeartbeats 2000000 in
theorem impl_Stuff.yes (a0 : ByteArray) (w : World) (hsz : a0.size ≤ 2000) (hB0 : isBits a0 = true) :
    Calls Try.prog 20 #[.string a0] w fun e w' => e = .returned (.string (strOfNums (stuffL (bytesOf a0)))) ∧ Below w.heap.size w w' := by
  have hbt : Hid (impl_bitText.f a0 2000 = some true) := by
    refine Lib.hid ?_
    unfold impl_bitText.f
    rw [hB0, decide_eq_true (by omega)]; rfl
  have HB := Lib.hid hB0
  clear hB0
  have hcap : ((a0.size * 5 / 4 + 1 : Nat) : Int) = (a0.size : Int) * 5 / 4 + 1 := by omega
  go_enter Try.func20, Try.ntmps20
  go_wp2_with (go_at_call 47; refine (impl_bitText.calls _ _ true _ hbt.out).mono ?_; rintro e w1 ⟨rfl, hb1⟩; obtain ⟨w2, cap, hmk, ho2, hg2⟩ := make_R (P := Try.prog) (Kd.int .u8) w1 w.heap.size 38 5 (.int .u8 0) 1 Try.underlying38 infoU8 (a0.size * 5 / 4 + 1) (by omega) (by simp only [maxLen]; omega) hb1.size; rw [hcap] at hmk; have HO2 := Lib.hid ho2; have HBL := Lib.hid (hb1.grown hg2 hb1.size (fun k hk => by cases hk)); clear ho2 hb1 hg2 hcap)
  go_loopw [3, 4, 5] (fun v3 v4 v5 wr => ∃ (pos : Nat) (out : List Int) (run last : Int), StuffAt a0 pos out run last ∧ wr.heap[w2.heap.size]? = some (.stringIter a0 pos) ∧ Aside0 (Kd.R (Kd.int .u8) 5 wr w.heap.size (fun _ => True) v3 out) ∧ Aside0 (Below w.heap.size w wr) ∧ v4 = .int .i64 run ∧ v5 = .int .i32 last) (fun _ _ _ wr => a0.size - wr.iterPos w2.heap.size)
  case atStart => exact ⟨0, [], 0, 120, ⟨stuffTo_zero a0⟩, iter_new _ _ _, ⟨R_iter HO2.out a0 0⟩, ⟨HBL.out.alloc HBL.out.size _⟩, rfl, rfl⟩
  case round =>
    obtain ⟨pos, out, run, last, hst, hit, HO, HW, rfl, rfl⟩ := hrel
    obtain ⟨hl, hr0, hr1⟩ := hst.bounds
    by_cases hp : pos < a0.size
    · have hbit := isBits_at HB.out hp
      have HSZ : Hid (w.heap.size ≤ w2.heap.size) := Lib.hid HBL.out.size
      rcases isBit_cases hbit with e | e
      · have hnx := fun ty => next_bit_at (P := Try.prog) _ _ a0 pos ty hit hp (b := 48) (by rw [e]; rfl) (by omega)
        have hst' := stuffTo_succ a0 pos hp (b := 48) (by rw [e]; rfl)
        rw [hst.out] at hst'
        have HIT := Lib.hid hit
        clear e hbit hit
        by_cases c1 : 48 = last
        · subst c1
          by_cases c2 : run = 4
          · subst c2
            have HS := Aside0.mk (show StuffAt a0 (pos + 1) (out ++ [48] ++ [49]) 1 49 from ⟨hst'⟩)
            clear hst' hst
            go_wp2_with (first | (at_builtin; refine Kd.R_append (Kd.int .u8) (w0 := w) w.heap.size rfl (.tmp 28) (.tmp 31) 38 5 (.int .u8 0) 1 rfl Try.underlying38 infoU8 rfl (by decide) (by omega) _ out 48 [.int .u8 48] (fun _ => True) (fun _ => False) rfl rfl ?aP (fun _ hk => hk.elim) ?aF ?aO ?aB ?aS ?aL ?_; (case aP => exact rfl); (case aF => exact fun _ _ => trivial); (case aO => exact R_iterAt HO.out HIT.out (pos + 1)); (case aB => exact (Lib.below_iterAt HW.out HSZ.out a0 (pos + 1))); (case aS => exact (Lib.below_iterAt HW.out HSZ.out a0 (pos + 1)).size); (case aL => simp; omega); intro v1 wA ho1 hb1 hg1 hat1; have HO1 := Aside0.mk ho1; have HW1 := Aside0.mk hb1; have HIT1 := Lib.hid (iter_grown (R_iterAt HO.out HIT.out (pos + 1)) hg1 (Lib.iterAt_heap _ _ a0 pos (pos + 1) HIT.out)); clear ho1 hb1 hg1 hat1) | (at_builtin; refine Kd.R_append (Kd.int .u8) (w0 := w) w.heap.size rfl (.tmp 37) (.tmp 40) 38 5 (.int .u8 0) 1 rfl Try.underlying38 infoU8 rfl (by decide) (by omega) _ (out ++ [48]) 49 [.int .u8 49] (fun _ => True) (fun _ => False) rfl rfl ?aP (fun _ hk => hk.elim) ?aF ?aO ?aB ?aS ?aL ?_; (case aP => exact rfl); (case aF => exact fun _ _ => trivial); (case aO => exact HO1.out); (case aB => exact HW1.out); (case aS => exact HW1.out.size); (case aL => simp; omega); intro v2 wB ho2 hb2 hg2 hat2; have HO2' := Aside0.mk ho2; have HW2 := Aside0.mk hb2; have HIT2 := Lib.hid (iter_grown HO1.out hg2 HIT1.out); clear ho2 hb2 hg2 hat2))
            go_roundw
            case rel => exact ⟨pos + 1, _, _, _, HS.out, HIT2.out, HO2', HW2, rfl, rfl⟩
            case measure => rw [iterPos_at HIT2.out, iterPos_at HIT.out]; omega
          · have HS := Aside0.mk (show StuffAt a0 (pos + 1) (out ++ [48]) (run + 1) 48 from ⟨hst'.trans (if_neg (by simp; omega))⟩)
            have c3 : ((run + 1 : Int) == 5) = false := by rw [beq_eq_false_iff_ne]; omega
            clear hst' hst c2
            go_wp2_with (first | (at_builtin; refine Kd.R_append (Kd.int .u8) (w0 := w) w.heap.size rfl (.tmp 28) (.tmp 31) 38 5 (.int .u8 0) 1 rfl Try.underlying38 infoU8 rfl (by decide) (by omega) _ out 48 [.int .u8 48] (fun _ => True) (fun _ => False) rfl rfl ?aP (fun _ hk => hk.elim) ?aF ?aO ?aB ?aS ?aL ?_; (case aP => exact rfl); (case aF => exact fun _ _ => trivial); (case aO => exact R_iterAt HO.out HIT.out (pos + 1)); (case aB => exact (Lib.below_iterAt HW.out HSZ.out a0 (pos + 1))); (case aS => exact (Lib.below_iterAt HW.out HSZ.out a0 (pos + 1)).size); (case aL => simp; omega); intro v1 wA ho1 hb1 hg1 hat1; have HO1 := Aside0.mk ho1; have HW1 := Aside0.mk hb1; have HIT1 := Lib.hid (iter_grown (R_iterAt HO.out HIT.out (pos + 1)) hg1 (Lib.iterAt_heap _ _ a0 pos (pos + 1) HIT.out)); clear ho1 hb1 hg1 hat1))
            go_roundw
            case rel => exact ⟨pos + 1, _, _, _, HS.out, HIT1.out, HO1, HW1, rfl, rfl⟩
            case measure => rw [iterPos_at HIT1.out, iterPos_at HIT.out]; omega
        · have HS := Aside0.mk (show StuffAt a0 (pos + 1) (out ++ [48]) 1 48 from ⟨by rw [hst']; unfold stuffStep; simp only []; rw [if_neg (show ¬ ((48 : Nat) : Int) = last from c1), if_neg (by decide)]; rfl⟩)
          have c3 : ((48 : Int) == last) = false := by rw [beq_eq_false_iff_ne]; exact c1
          clear hst' hst c1
          go_wp2_with (first | (at_builtin; refine Kd.R_append (Kd.int .u8) (w0 := w) w.heap.size rfl (.tmp 28) (.tmp 31) 38 5 (.int .u8 0) 1 rfl Try.underlying38 infoU8 rfl (by decide) (by omega) _ out 48 [.int .u8 48] (fun _ => True) (fun _ => False) rfl rfl ?aP (fun _ hk => hk.elim) ?aF ?aO ?aB ?aS ?aL ?_; (case aP => exact rfl); (case aF => exact fun _ _ => trivial); (case aO => exact R_iterAt HO.out HIT.out (pos + 1)); (case aB => exact (Lib.below_iterAt HW.out HSZ.out a0 (pos + 1))); (case aS => exact (Lib.below_iterAt HW.out HSZ.out a0 (pos + 1)).size); (case aL => simp; omega); intro v1 wA ho1 hb1 hg1 hat1; have HO1 := Aside0.mk ho1; have HW1 := Aside0.mk hb1; have HIT1 := Lib.hid (iter_grown (R_iterAt HO.out HIT.out (pos + 1)) hg1 (Lib.iterAt_heap _ _ a0 pos (pos + 1) HIT.out)); clear ho1 hb1 hg1 hat1))
          go_roundw
          case rel => exact ⟨pos + 1, _, _, _, HS.out, HIT1.out, HO1, HW1, rfl, rfl⟩
          case measure => rw [iterPos_at HIT1.out, iterPos_at HIT.out]; omega
      · have hnx := fun ty => next_bit_at (P := Try.prog) _ _ a0 pos ty hit hp (b := 49) (by rw [e]; rfl) (by omega)
        have hst' := stuffTo_succ a0 pos hp (b := 49) (by rw [e]; rfl)
        rw [hst.out] at hst'
        have HIT := Lib.hid hit
        clear e hbit hit
        by_cases c1 : 49 = last
        · subst c1
          by_cases c2 : run = 4
          · subst c2
            have HS := Aside0.mk (show StuffAt a0 (pos + 1) (out ++ [49] ++ [48]) 1 48 from ⟨hst'⟩)
            clear hst' hst
            go_wp2_with (first | (at_builtin; refine Kd.R_append (Kd.int .u8) (w0 := w) w.heap.size rfl (.tmp 28) (.tmp 31) 38 5 (.int .u8 0) 1 rfl Try.underlying38 infoU8 rfl (by decide) (by omega) _ out 49 [.int .u8 49] (fun _ => True) (fun _ => False) rfl rfl ?aP (fun _ hk => hk.elim) ?aF ?aO ?aB ?aS ?aL ?_; (case aP => exact rfl); (case aF => exact fun _ _ => trivial); (case aO => exact R_iterAt HO.out HIT.out (pos + 1)); (case aB => exact (Lib.below_iterAt HW.out HSZ.out a0 (pos + 1))); (case aS => exact (Lib.below_iterAt HW.out HSZ.out a0 (pos + 1)).size); (case aL => simp; omega); intro v1 wA ho1 hb1 hg1 hat1; have HO1 := Aside0.mk ho1; have HW1 := Aside0.mk hb1; have HIT1 := Lib.hid (iter_grown (R_iterAt HO.out HIT.out (pos + 1)) hg1 (Lib.iterAt_heap _ _ a0 pos (pos + 1) HIT.out)); clear ho1 hb1 hg1 hat1) | (at_builtin; refine Kd.R_append (Kd.int .u8) (w0 := w) w.heap.size rfl (.tmp 37) (.tmp 40) 38 5 (.int .u8 0) 1 rfl Try.underlying38 infoU8 rfl (by decide) (by omega) _ (out ++ [49]) 48 [.int .u8 48] (fun _ => True) (fun _ => False) rfl rfl ?aP (fun _ hk => hk.elim) ?aF ?aO ?aB ?aS ?aL ?_; (case aP => exact rfl); (case aF => exact fun _ _ => trivial); (case aO => exact HO1.out); (case aB => exact HW1.out); (case aS => exact HW1.out.size); (case aL => simp; omega); intro v2 wB ho2 hb2 hg2 hat2; have HO2' := Aside0.mk ho2; have HW2 := Aside0.mk hb2; have HIT2 := Lib.hid (iter_grown HO1.out hg2 HIT1.out); clear ho2 hb2 hg2 hat2))
            go_roundw
            case rel => exact ⟨pos + 1, _, _, _, HS.out, HIT2.out, HO2', HW2, rfl, rfl⟩
            case measure => rw [iterPos_at HIT2.out, iterPos_at HIT.out]; omega
          · have HS := Aside0.mk (show StuffAt a0 (pos + 1) (out ++ [49]) (run + 1) 49 from ⟨hst'.trans (if_neg (by simp; omega))⟩)
            have c3 : ((run + 1 : Int) == 5) = false := by rw [beq_eq_false_iff_ne]; omega
            clear hst' hst c2
            go_wp2_with (first | (at_builtin; refine Kd.R_append (Kd.int .u8) (w0 := w) w.heap.size rfl (.tmp 28) (.tmp 31) 38 5 (.int .u8 0) 1 rfl Try.underlying38 infoU8 rfl (by decide) (by omega) _ out 49 [.int .u8 49] (fun _ => True) (fun _ => False) rfl rfl ?aP (fun _ hk => hk.elim) ?aF ?aO ?aB ?aS ?aL ?_; (case aP => exact rfl); (case aF => exact fun _ _ => trivial); (case aO => exact R_iterAt HO.out HIT.out (pos + 1)); (case aB => exact (Lib.below_iterAt HW.out HSZ.out a0 (pos + 1))); (case aS => exact (Lib.below_iterAt HW.out HSZ.out a0 (pos + 1)).size); (case aL => simp; omega); intro v1 wA ho1 hb1 hg1 hat1; have HO1 := Aside0.mk ho1; have HW1 := Aside0.mk hb1; have HIT1 := Lib.hid (iter_grown (R_iterAt HO.out HIT.out (pos + 1)) hg1 (Lib.iterAt_heap _ _ a0 pos (pos + 1) HIT.out)); clear ho1 hb1 hg1 hat1))
            go_roundw
            case rel => exact ⟨pos + 1, _, _, _, HS.out, HIT1.out, HO1, HW1, rfl, rfl⟩
            case measure => rw [iterPos_at HIT1.out, iterPos_at HIT.out]; omega
        · have HS := Aside0.mk (show StuffAt a0 (pos + 1) (out ++ [49]) 1 49 from ⟨by rw [hst']; unfold stuffStep; simp only []; rw [if_neg (show ¬ ((49 : Nat) : Int) = last from c1), if_neg (by decide)]; rfl⟩)
          have c3 : ((49 : Int) == last) = false := by rw [beq_eq_false_iff_ne]; exact c1
          clear hst' hst c1
          go_wp2_with (first | (at_builtin; refine Kd.R_append (Kd.int .u8) (w0 := w) w.heap.size rfl (.tmp 28) (.tmp 31) 38 5 (.int .u8 0) 1 rfl Try.underlying38 infoU8 rfl (by decide) (by omega) _ out 49 [.int .u8 49] (fun _ => True) (fun _ => False) rfl rfl ?aP (fun _ hk => hk.elim) ?aF ?aO ?aB ?aS ?aL ?_; (case aP => exact rfl); (case aF => exact fun _ _ => trivial); (case aO => exact R_iterAt HO.out HIT.out (pos + 1)); (case aB => exact (Lib.below_iterAt HW.out HSZ.out a0 (pos + 1))); (case aS => exact (Lib.below_iterAt HW.out HSZ.out a0 (pos + 1)).size); (case aL => simp; omega); intro v1 wA ho1 hb1 hg1 hat1; have HO1 := Aside0.mk ho1; have HW1 := Aside0.mk hb1; have HIT1 := Lib.hid (iter_grown (R_iterAt HO.out HIT.out (pos + 1)) hg1 (Lib.iterAt_heap _ _ a0 pos (pos + 1) HIT.out)); clear ho1 hb1 hg1 hat1))
          go_roundw
          case rel => exact ⟨pos + 1, _, _, _, HS.out, HIT1.out, HO1, HW1, rfl, rfl⟩
          case measure => rw [iterPos_at HIT1.out, iterPos_at HIT.out]; omega
    · have hnx := fun ty => Lib.run_next_end_at (P := Try.prog) _ _ a0 pos ty hit hp
      have hcv := own_string (P := Try.prog) Try.underlying38 Try.underlying5 Try.underlying9 (Kd.own_of_R HO.out)
      go_wp2
      go_ret
      exact ⟨by rw [← stuffTo_end a0 pos hp, hst.out]; rfl, HW.out⟩
theorem impl_Stuff.calls (a0 : ByteArray) (r : ByteArray) (w : World) (h : impl_Stuff.f a0 = some r) :
    Calls Try.prog 20 #[.string a0] w fun e w' => e = .returned (.string r) ∧ Below w.heap.size w w' := by
  by_cases c : a0.size ≤ 2000 ∧ isBits a0 = true
  · obtain rfl : r = strOfNums (stuffL (bytesOf a0)) := (Option.some.inj h).symm.trans (if_pos c)
    exact impl_Stuff.yes a0 w c.1 c.2
  · obtain rfl : r = ⟨#[]⟩ := (Option.some.inj h).symm.trans (if_neg c)
    clear h
    have hbt : Hid (impl_bitText.f a0 2000 = some false) := by
      refine Lib.hid ?_
      unfold impl_bitText.f
      congr 1
      rw [Bool.and_eq_false_iff]
      by_cases h : isBits a0 = true
      · exact .inl (decide_eq_false fun h2 => c ⟨by omega, h⟩)
      · exact .inr (by simpa using h)
    clear c
    go_enter Try.func20, Try.ntmps20
    go_wp2_with (go_at_call 47; refine (impl_bitText.calls _ _ false _ hbt.out).mono ?_; rintro e w1 ⟨rfl, hb1⟩)
    go_ret
    exact ⟨rfl, hb1⟩

end Go.Proofs.Ytogedkkdhonmlaa.P

namespace Go.Proofs.Ytogedkkdhonmlaa.P
open Go.RowKit Go.Proofs.YtogedkkdhonmlaaW.PrintWords Go.Proofs.YtogedkkdhonmlaaW.PrintLast Go.Proofs.YtogedkkdhonmlaaW.PrintMore
attribute [local go_sem] max2_int min2_int max_two min_two max_three min_three max_four min_four
set_option linter.unusedVariables false
set_option linter.unusedSimpArgs false

-- GIVEN rounds=0 making=1 import=Derived.Test.YtogedkkdhonmlaaText
/-! ### impl_Encode: function 45 -/
def encodeV (ext : Bool) (id : Int) (rtr : Bool) (dlc : Int) (data : List Int) : ByteArray := if validF ext id rtr dlc data.length = true then strOfNums (stuffL (plainL ext id rtr dlc data) ++ onesL) else ⟨#[]⟩
def impl_Encode.f (a0_0 : Bool) (a0_1 : Int) (a0_2 : Bool) (a0_3 : Int) (l0_4 : List Int) : Option (ByteArray) := if 0 ≤ a0_1 ∧ okBytes l0_4 = true then some (encodeV a0_0 a0_1 a0_2 a0_3 l0_4) else none
theorem stuff_str {l : List Int} (h : Bits l) (hl : l.length ≤ 2000) : impl_Stuff.f (strOfNums l) = some (strOfNums (stuffL l)) := by
  unfold impl_Stuff.f
  rw [if_pos ⟨by rw [strOfNums_size]; exact hl, isBits_str h⟩, bytes_str l h.range]
theorem crc15_str {l : List Int} (h : Bits l) (hl : l.length ≤ 2000) : impl_Crc15.f (strOfNums l) = some (crcL l : Int) := by
  unfold impl_Crc15.f
  rw [if_pos ⟨by rw [strOfNums_size]; exact hl, isBits_str h⟩, crcOf_str h]
theorem body_str {ext : Bool} {id : Int} {rtr : Bool} {dlc : Int} {l : List Int} (h0 : 0 ≤ id) (hb : okBytes l = true) (hv : validF ext id rtr dlc l.length = true) : impl_Body.f ext id rtr dlc l = some (strOfNums (bodyL ext id rtr dlc l)) := by
  unfold impl_Body.f bodyV
  rw [if_pos ⟨h0, hb⟩, if_pos hv]
theorem stuffL_len (l : List Int) : (stuffL l).length ≤ 2 * l.length := by
  unfold stuffL
  have key : ∀ (l : List Int) (st : List Int × Int × Int), (l.foldl stuffStep st).1.length ≤ st.1.length + 2 * l.length := by
    intro l
    induction l with
    | nil => intro st; simp
    | cons c l ih =>
      intro st
      have h1 : (stuffStep st c).1.length ≤ st.1.length + 2 := by
        unfold stuffStep
        generalize (if c = st.2.2 then st.2.1 + 1 else 1) = q
        split <;> simp
      have := ih (stuffStep st c)
      rw [List.foldl_cons, List.length_cons]
      omega
  have := key l ([], 0, 120)
  simpa using this
set_option maxHeartbeats 4000000 in
theorem impl_Encode.yes (ext : Bool) (id : Int) (rtr : Bool) (dlc : Int) (A : Option Addr) (c : Nat) (l : List Int) (w : World) (hr : Kd.C (Kd.int .u8) w A l.length l) (hc : l.length ≤ c) (h0 : 0 ≤ id) (hb : okBytes l = true) (hv : validF ext id rtr dlc l.length = true) :
    Calls Try.prog 45 #[.agg #[.bool ext, .int .u32 id, .bool rtr, .int .i64 dlc, .slice A l.length c]] w fun e w' => e = .returned (.string (strOfNums (stuffL (plainL ext id rtr dlc l) ++ onesL))) ∧ Below w.heap.size w w' := by
  have HV : Hid (impl_ValidFrame.f ext id rtr dlc l = some true) := Lib.hid (by unfold impl_ValidFrame.f; rw [hv])
  have HBD := Lib.hid (body_str h0 hb hv)
  have HR := Lib.hid hr
  have HC := Lib.hid hc
  obtain ⟨-, -, -, -, hn8⟩ := valid_parts hv
  obtain ⟨B, hB⟩ : ∃ B, bodyL ext id rtr dlc l = B := ⟨_, rfl⟩
  have HBB : Hid (Bits B ∧ B.length ≤ 103) := Lib.hid (hB ▸ ⟨bodyL_bits ext id rtr dlc l, bodyL_length ext id rtr dlc l hn8⟩)
  have HPL : Hid (plainL ext id rtr dlc l = B ++ numL (crcL B) 15) := Lib.hid (by unfold plainL; rw [hB])
  have HPB : Hid (Bits (B ++ numL (crcL B) 15) ∧ (B ++ numL (crcL B) 15).length ≤ 118) := Lib.hid (HPL.out ▸ ⟨plainL_bits ext id rtr dlc l, plainL_length ext id rtr dlc l hn8⟩)
  rw [hB] at HBD
  have HM8 : Hid (l.length ≤ 9223372036854775807) := Lib.hid hr.2.1
  clear hv hr hc hb hn8 h0 hB
  go_enter Try.func45, Try.ntmps45
  go_wp2_with (fail)
  (refine (impl_ValidFrame.calls ext id rtr dlc A c l true _ (Kd.C_below HR.out ((Below.refl _ _).alloc (Nat.le_refl _) _)) HC.out HV.out).mono ?_; rintro e w1 ⟨rfl, hb1⟩; have HB1 := Lib.hid hb1; clear hb1; have HBOX := Lib.hid (blk_below (blk_new w _) HB1.out); have hc0 := blk_cell HBOX.out 0; have hc1 := blk_cell HBOX.out 1; have hc2 := blk_cell HBOX.out 2; have hc3 := blk_cell HBOX.out 3; have hc4 := blk_cell HBOX.out 4; simp only [box5_0, box5_1, box5_2, box5_3, box5_4] at hc0 hc1 hc2 hc3 hc4)
  go_wp2_with (fail)
  (refine (impl_Body.calls ext id rtr dlc A c l _ _ (Kd.C_below (Kd.C_below HR.out ((Below.refl _ _).alloc (Nat.le_refl _) _)) HB1.out) HC.out HBD.out).mono ?_; rintro e w2 ⟨rfl, hb2⟩; have HB2 := Lib.hid hb2; clear hb2 hc0 hc1 hc2 hc3 hc4; have hcv0 := Lib.run_convert_string_bytes (P := Try.prog) w2 9 78 5 (strOfNums B) Try.underlying9 Try.underlying78 Try.underlying5)
  go_wp2_with (fail)
  (refine (impl_Crc15.calls _ (crcL B : Int) _ (crc15_str HBB.out.1 (by have := HBB.out.2; omega))).mono ?_; rintro e w3 ⟨rfl, hb3⟩)
  have HZ : Hid (w.heap.size ≤ w1.heap.size ∧ w1.heap.size ≤ w2.heap.size ∧ (Lib.bytesWorld w2 5 (strOfNums B)).heap.size = w2.heap.size + 1) := Lib.hid ⟨by have := HB1.out.size; simp at this; omega, HB2.out.size, Lib.bytesWorld_size _ _ _⟩
  obtain ⟨p, hp⟩ : ∃ p, p = (Lib.bytesWorld w2 5 (strOfNums B)).heap.size := ⟨_, rfl⟩
  have HP := Lib.hid hp
  have HQ1 : Hid (w3.heap[p]? = some (.cells #[.slice (some ⟨w2.heap.size, 0, none⟩) (strOfNums B).size (grownCap w2 (strOfNums B).size 0 5)] 78 (0, 0))) := Lib.hid (by rw [hp]; exact blk_below (blk_new _ _) hb3)
  have HQ2 : Hid (RowM 5 w3 w.heap.size (.slice (some ⟨w2.heap.size, 0, none⟩) (strOfNums B).size (grownCap w2 (strOfNums B).size 0 5)) B) := Lib.hid (by
    have h := RowM.bytes w2 5 (strOfNums B) w.heap.size (by have := HZ.out; omega) (by rw [strOfNums_size]; have := HBB.out.2; unfold maxLen; omega)
    rw [bytes_str B HBB.out.1.range] at h
    refine h.move fun k hk => ?_
    have hk2 := (h.typed hk).2.1
    rw [hb3.block k (by simp; omega), Below.heap_alloc _ _ _ hk2])
  have HQ3 : Hid (Below w.heap.size w w3) := Lib.hid (by
    have h1 : Below w.heap.size w w1 := Below.trans ((Below.refl _ _).alloc (Nat.le_refl _) _) (HB1.out.mono (by simp))
    have h2 : Below w.heap.size w w2 := h1.trans (HB2.out.mono HZ.out.1)
    refine ((below_bytes h2 (by have := HZ.out; omega) _ _).alloc (by have := HZ.out; omega) _).trans (hb3.mono (by simp; have := HZ.out; omega)))
  rw [← hp]
  clear hb3 hp hcv0 HB1 HB2 HBOX
  go_wp2_with (fail)
  ((with_reducible refine (impl_letters_number.at _ 15 _ _ _ (crcL B) 15 w.heap.size _ HQ1.out HQ2.out HQ3.out.size ?hx ?hu rfl (by omega) ?hl).mono ?_); (case hx => have := crcL_lt B; first | (rw [IntKind.wrap_u32]; omega) | omega); (case hu => have := crcL_lt B; omega); (case hl => have := HBB.out.2; omega); rintro e w4 ⟨rfl, v', hq1, hq2, hq3⟩; have HB4 := Lib.hid (hq3.below HQ3.out HQ3.out.size (by have := HP.out; have := HZ.out; omega) (fun k hk => (HQ2.out.typed hk).1)); have HQ4 := Lib.hid hq1; have HQ5 := Lib.hid hq2; clear hq1 hq2 hq3; have hptr := blk_cell HQ4.out 0; simp only [box1_0] at hptr; have hcv := RowM.string (P := Try.prog) Try.underlying78 Try.underlying5 Try.underlying9 HQ5.out)
  go_wp2_with (fail)
  (refine (impl_Stuff.calls _ _ _ (stuff_str HPB.out.1 (by have := HPB.out.2; omega))).mono ?_; rintro e w5 ⟨rfl, hb5⟩; have HB5 := Lib.hid hb5; clear hb5)
  have hsz : (strOfNums (stuffL (B ++ numL (crcL B) 15))).size ≤ 236 := by rw [strOfNums_size]; have h1 := stuffL_len (B ++ numL (crcL B) 15); have := HPB.out.2; omega
  go_wp2_with (fail)
  go_ret
  exact ⟨by rw [HPL.out, str_append (stuffL _) onesL]; rfl, HB4.out.trans (HB5.out.mono HB4.out.size)⟩
theorem impl_Encode.calls (a0_0 : Bool) (a0_1 : Int) (a0_2 : Bool) (a0_3 : Int) (A0_4 : Option Addr) (c0_4 : Nat) (l0_4 : List Int) (r : ByteArray) (w : World) (hr0_4 : Kd.C (Kd.int .u8) w A0_4 l0_4.length l0_4) (hc0_4 : l0_4.length ≤ c0_4) (h : impl_Encode.f a0_0 a0_1 a0_2 a0_3 l0_4 = some r) :
    Calls Try.prog 45 #[.agg #[.bool a0_0, .int .u32 a0_1, .bool a0_2, .int .i64 a0_3, .slice A0_4 l0_4.length c0_4]] w fun e w' => e = .returned (.string r) ∧ Below w.heap.size w w' := by
  unfold impl_Encode.f at h
  by_cases c : 0 ≤ a0_1 ∧ okBytes l0_4 = true
  · rw [if_pos c] at h
    have hr := (Option.some.inj h).symm
    unfold encodeV at hr
    cases hv : validF a0_0 a0_1 a0_2 a0_3 l0_4.length with
    | true =>
      rw [hv, if_pos rfl] at hr
      subst hr
      exact impl_Encode.yes a0_0 a0_1 a0_2 a0_3 A0_4 c0_4 l0_4 w hr0_4 hc0_4 c.1 c.2 hv
    | false =>
      rw [hv] at hr
      subst hr
      have HV : Hid (impl_ValidFrame.f a0_0 a0_1 a0_2 a0_3 l0_4 = some false) := Lib.hid (by unfold impl_ValidFrame.f; rw [hv])
      have HR := Lib.hid hr0_4
      have HC := Lib.hid hc0_4
      have HM8 : Hid (l0_4.length ≤ 9223372036854775807) := Lib.hid hr0_4.2.1
      clear hr0_4 hc0_4 hv c h
      go_enter Try.func45, Try.ntmps45
      go_wp2_with (fail)
      (refine (impl_ValidFrame.calls a0_0 a0_1 a0_2 a0_3 A0_4 c0_4 l0_4 false _ (Kd.C_below HR.out ((Below.refl _ _).alloc (Nat.le_refl _) _)) HC.out HV.out).mono ?_; rintro e w1 ⟨rfl, hb1⟩; have HB1 : Hid (Below w.heap.size w w1) := Lib.hid (Below.trans ((Below.refl _ _).alloc (Nat.le_refl _) _) (hb1.mono (by simp))); clear hb1)
      go_wp2_with (fail)
      go_ret
      exact ⟨rfl, HB1.out⟩
  · rw [if_neg c] at h
    cases h

end Go.Proofs.Ytogedkkdhonmlaa.P
