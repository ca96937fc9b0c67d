import Derived.Test.YtogedkkdhonmlaaF0
import Derived.Test.YtogedkkdhonmlaaF29
import Derived.Test.YtogedkkdhonmlaaF61
import Derived.Test.YtogedkkdhonmlaaF69
import Derived.Test.YtogedkkdhonmlaaF70
import Derived.Test.YtogedkkdhonmlaaRow8
namespace Go.Proofs.Ytogedkkdhonmlaa.P
open Go.RowKit Go.Proofs.YtogedkkdhonmlaaW.PrintWords Go.Proofs.YtogedkkdhonmlaaW.PrintLast Go.Proofs.YtogedkkdhonmlaaW.PrintMore
attribute [local go_sem] max2_int min2_int max_two min_two max_three min_three max_four min_four
set_option linter.unusedVariables false
set_option linter.unusedSimpArgs false

-- GIVEN rounds=0 making=1 import=Derived.Test.YtogedkkdhonmlaaRow8
/-! ### impl_Body: function 40 -/
def okBytes (l : List Int) : Bool := l.all fun x => decide (0 ≤ x) && decide (x < 256)
theorem okBytes_at {l : List Int} (h : okBytes l = true) (i : Nat) (hi : i < l.length) : 0 ≤ rd l (i : Int) ∧ rd l (i : Int) < 256 := by
  have := List.all_eq_true.1 h _ (List.mem_of_getElem? (rd_get l i hi))
  simpa using this
def bodyV (ext : Bool) (id : Int) (rtr : Bool) (dlc : Int) (data : List Int) : ByteArray := if validF ext id rtr dlc data.length = true then strOfNums (bodyL ext id rtr dlc data) else ⟨#[]⟩
def impl_Body.f (a0_0 : Bool) (a0_1 : Int) (a0_2 : Bool) (a0_3 : Int) (l0_4 : List Int) : Option (ByteArray) := if 0 ≤ a0_1 ∧ okBytes l0_4 = true then some (bodyV a0_0 a0_1 a0_2 a0_3 l0_4) else none
theorem valid_parts {ext : Bool} {id : Int} {rtr : Bool} {dlc : Int} {n : Nat} (h : validF ext id rtr dlc n = true) : id < vtop ext ∧ 0 ≤ dlc ∧ dlc ≤ 15 ∧ (n : Int) = dataB rtr dlc ∧ n ≤ 8 := by
  unfold validF at h
  rw [Bool.and_eq_true, Bool.and_eq_true, Bool.and_eq_true] at h
  obtain ⟨h1, h2, h3, h4⟩ := h
  have h5 : (n : Int) = dataB rtr dlc := by simpa using h4
  refine ⟨of_decide_eq_true h1, of_decide_eq_true h2, of_decide_eq_true h3, h5, ?_⟩
  unfold dataB at h5
  split at h5
  · omega
  · split at h5
    · omega
    · have := of_decide_eq_true h2; have := of_decide_eq_true h3; omega
section
variable {v0 v1 v2 v3 v4 : Value}
theorem box5_0 : (#[v0, v1, v2, v3, v4] : Array Value)[0]? = some v0 := rfl
theorem box5_1 : (#[v0, v1, v2, v3, v4] : Array Value)[1]? = some v1 := rfl
theorem box5_2 : (#[v0, v1, v2, v3, v4] : Array Value)[2]? = some v2 := rfl
theorem box5_3 : (#[v0, v1, v2, v3, v4] : Array Value)[3]? = some v3 := rfl
theorem box1_0 : (#[v0] : Array Value)[0]? = some v0 := rfl
theorem box5_4 : (#[v0, v1, v2, v3, v4] : Array Value)[4]? = some v4 := rfl
end
theorem take_next (l : List Int) (i : Nat) (h : i < l.length) : l.take (i + 1) = l.take i ++ [rd l (i : Int)] := by
  rw [List.take_succ_eq_append_getElem h]
  have := rd_get l i h
  rw [List.getElem?_eq_getElem h] at this
  rw [Option.some.inj this]
set_option maxHeartbeats 4000000 in
theorem impl_Body.yes (ext : Bool) (id : Int) (rtr : Bool) (dlc : Int) (A : Option Addr) (c : Nat) (l : List Int) (w : World) (hr : Kd.C (Kd.int .u8) w A l.length l) (hc : l.length ≤ c) (h0 : 0 ≤ id) (hb : okBytes l = true) (hv : validF ext id rtr dlc l.length = true) :
    Calls Try.prog 40 #[.agg #[.bool ext, .int .u32 id, .bool rtr, .int .i64 dlc, .slice A l.length c]] w fun e w' => e = .returned (.string (strOfNums (bodyL ext id rtr dlc l))) ∧ Below w.heap.size w w' := by
  obtain ⟨hid, hd0, hd1, -, hn8⟩ := valid_parts hv
  have HV : Hid (impl_ValidFrame.f ext id rtr dlc l = some true) := Lib.hid (by unfold impl_ValidFrame.f; rw [hv])
  have HR := Lib.hid hr
  have HC := Lib.hid hc
  have HOB := Lib.hid hb
  have hid2 : id < 536870912 := by unfold vtop at hid; split at hid <;> omega
  have HID : Hid (ext = false → id < 2048) := Lib.hid (fun e => by rw [e] at hid; exact hid)
  have HU : Hid (id = (id.toNat : Int)) := Lib.hid (by omega)
  have HD : Hid (dlc = (dlc.toNat : Int)) := Lib.hid (by omega)
  have HU2 : Hid (id / 262144 = ((id.toNat / 262144 : Nat) : Int)) := Lib.hid (by omega)
  have HL : Hid (l.length ≤ 8) := Lib.hid hn8
  have hm8 : l.length ≤ 9223372036854775807 := by omega
  clear hv hr hc hb hid hn8
  cases ext
  · go_enter Try.func40, Try.ntmps40
    go_wp2_with (fail)
    (refine (impl_ValidFrame.calls false id rtr dlc A c l true _ (Kd.C_below HR.out ((Below.refl _ _).alloc (Nat.le_refl _) _)) HC.out HV.out).mono ?_; rintro e w1 ⟨rfl, hb1⟩; have HB1 := Lib.hid hb1; clear hb1; have HBW : Hid (BW 5 78 w (w1.alloc (.cells #[.slice none 0 0] 78)) w.heap.size w1.heap.size #[.bool false, .int .u32 id, .bool rtr, .int .i64 dlc, .slice A l.length c] 43 (.slice none 0 0) []) := Lib.hid ⟨blk_alloc (blk_below (blk_new w _) HB1.out) _, blk_new _ _, RowM.nil _ _ _, ((Below.refl _ _).alloc (Nat.le_refl _) _).trans ⟨HB1.out.os, HB1.out.tape, HB1.out.output, HB1.out.size, fun k hk => HB1.out.block k (by simp; omega)⟩ |>.alloc (by have := HB1.out.size; simp at this; omega) _, Nat.le_refl _, by have := HB1.out.size; simp at this; omega, by have := HB1.out.size; simp at this; omega⟩; have hc0 := blk_cell HBW.out.box 0; have hc1 := blk_cell HBW.out.box 1; have hc2 := blk_cell HBW.out.box 2; have hc3 := blk_cell HBW.out.box 3; have hc4 := blk_cell HBW.out.box 4; simp only [box5_0, box5_1, box5_2, box5_3, box5_4] at hc0 hc1 hc2 hc3 hc4)
    go_wp2_with (fail)
    ((with_reducible refine (impl_letters_number.at 0 1 _ _ _ 0 1 w.heap.size _ HBW.out.ptr HBW.out.row HBW.out.below.size rfl ?hu rfl (by omega) ?hl).mono ?_); (case hu => omega); (case hl => simp [numL_length, flagL]); rintro e w' ⟨rfl, v', hq1, hq2, hq3⟩; have HN := Lib.hid (HBW.out.step (by decide) hq1 hq2 hq3); clear hq1 hq2 hq3 hc0 hc1 hc2 hc3 hc4 HBW; have HBW := HN; clear HN; have hc0 := blk_cell HBW.out.box 0; have hc1 := blk_cell HBW.out.box 1; have hc2 := blk_cell HBW.out.box 2; have hc3 := blk_cell HBW.out.box 3; have hc4 := blk_cell HBW.out.box 4; simp only [box5_0, box5_1, box5_2, box5_3, box5_4] at hc0 hc1 hc2 hc3 hc4)
    go_wp2_with (fail)
    ((with_reducible refine (impl_letters_number.at id 11 _ _ _ id.toNat 11 w.heap.size _ HBW.out.ptr HBW.out.row HBW.out.below.size HU.out ?hu rfl (by omega) ?hl).mono ?_); (case hu => omega); (case hl => simp [numL_length, flagL]); rintro e w' ⟨rfl, v', hq1, hq2, hq3⟩; have HN := Lib.hid (HBW.out.step (by decide) hq1 hq2 hq3); clear hq1 hq2 hq3 hc0 hc1 hc2 hc3 hc4 HBW; have HBW := HN; clear HN; have hc0 := blk_cell HBW.out.box 0; have hc1 := blk_cell HBW.out.box 1; have hc2 := blk_cell HBW.out.box 2; have hc3 := blk_cell HBW.out.box 3; have hc4 := blk_cell HBW.out.box 4; simp only [box5_0, box5_1, box5_2, box5_3, box5_4] at hc0 hc1 hc2 hc3 hc4)
    go_wp2_with (fail)
    ((with_reducible refine (impl_letters_flag.calls _ _ _ rtr w.heap.size _ HBW.out.ptr HBW.out.row HBW.out.below.size ?hl).mono ?_); (case hl => simp [numL_length, flagL]); rintro e w' ⟨rfl, v', hq1, hq2, hq3⟩; have HN := Lib.hid (HBW.out.step (by decide) hq1 hq2 hq3); clear hq1 hq2 hq3 hc0 hc1 hc2 hc3 hc4 HBW; have HBW := HN; clear HN; have hc0 := blk_cell HBW.out.box 0; have hc1 := blk_cell HBW.out.box 1; have hc2 := blk_cell HBW.out.box 2; have hc3 := blk_cell HBW.out.box 3; have hc4 := blk_cell HBW.out.box 4; simp only [box5_0, box5_1, box5_2, box5_3, box5_4] at hc0 hc1 hc2 hc3 hc4)
    go_wp2_with (fail)
    ((with_reducible refine (impl_letters_number.at 0 2 _ _ _ 0 2 w.heap.size _ HBW.out.ptr HBW.out.row HBW.out.below.size rfl ?hu rfl (by omega) ?hl).mono ?_); (case hu => omega); (case hl => simp [numL_length, flagL]); rintro e w' ⟨rfl, v', hq1, hq2, hq3⟩; have HN := Lib.hid (HBW.out.step (by decide) hq1 hq2 hq3); clear hq1 hq2 hq3 hc0 hc1 hc2 hc3 hc4 HBW; have HBW := HN; clear HN; have hc0 := blk_cell HBW.out.box 0; have hc1 := blk_cell HBW.out.box 1; have hc2 := blk_cell HBW.out.box 2; have hc3 := blk_cell HBW.out.box 3; have hc4 := blk_cell HBW.out.box 4; simp only [box5_0, box5_1, box5_2, box5_3, box5_4] at hc0 hc1 hc2 hc3 hc4)
    go_wp2_with (fail)
    ((with_reducible refine (impl_letters_number.at dlc 4 _ _ _ dlc.toNat 4 w.heap.size _ HBW.out.ptr HBW.out.row HBW.out.below.size HD.out ?hu rfl (by omega) ?hl).mono ?_); (case hu => omega); (case hl => simp [numL_length, flagL]); rintro e w' ⟨rfl, v', hq1, hq2, hq3⟩; have HN := Lib.hid (HBW.out.step (by decide) hq1 hq2 hq3); clear hq1 hq2 hq3 hc0 hc1 hc2 hc3 hc4 HBW; have HBW := HN; clear HN; have hc0 := blk_cell HBW.out.box 0; have hc1 := blk_cell HBW.out.box 1; have hc2 := blk_cell HBW.out.box 2; have hc3 := blk_cell HBW.out.box 3; have hc4 := blk_cell HBW.out.box 4; simp only [box5_0, box5_1, box5_2, box5_3, box5_4] at hc0 hc1 hc2 hc3 hc4)
    go_wp2_with (fail)
    have HBW' : Hid (BW 5 78 w _ w.heap.size w1.heap.size _ 43 _ (headL false id rtr ++ numL dlc.toNat 4 ++ dataL (l.take 0))) := Lib.hid (by have h := HBW.out; simpa [headL, dataL, flagL] using h)
    clear hc0 hc1 hc2 hc3 hc4 HBW
    go_loopw [38] (fun v38 wr => ∃ (i : Nat) (v : Value), i ≤ l.length ∧ Aside0 (BW 5 78 w wr w.heap.size w1.heap.size #[.bool false, .int .u32 id, .bool rtr, .int .i64 dlc, .slice A l.length c] 43 v (headL false id rtr ++ numL dlc.toNat 4 ++ dataL (l.take i))) ∧ v38 = .int .i64 i) (fun v38 _ => l.length - (intOf v38).toNat)
    case atStart => exact ⟨0, _, Nat.zero_le _, ⟨HBW'.out⟩, rfl⟩
    case round =>
      obtain ⟨i, v, hi, HBW, rfl⟩ := hrel
      have hptr := blk_cell HBW.out.ptr 0
      simp only [box1_0] at hptr
      by_cases hlt : i < l.length
      · obtain ⟨ad, ea, hcell⟩ := Kd.at_int (Kd.C_below HR.out HBW.out.below) (i : Int) (by omega) (by omega)
        subst ea
        have HBY := Lib.hid (okBytes_at HOB.out i hlt)
        have HX : Hid (rd l (i : Int) = ((rd l (i : Int)).toNat : Int)) := Lib.hid (by have := HBY.out; omega)
        rw [HX.out, Int.toNat_natCast] at hcell
        generalize hxx : (rd l (i : Int)).toNat = x at hcell
        have HXX : Hid (x = (rd l (i : Int)).toNat ∧ x < 256) := Lib.hid ⟨hxx.symm, by have := HBY.out; omega⟩
        have hx256 : x < 256 := HXX.out.2
        clear hxx
        go_wp2_with (fail)
        ((with_reducible refine (impl_letters_number.at (x : Int) 8 _ _ _ x 8 w.heap.size _ HBW.out.ptr HBW.out.row HBW.out.below.size rfl ?hu rfl (by omega) ?hl).mono ?_); (case hu => omega); (case hl => have h1 := headL_length false id rtr; have h2 := dataL_length (l.take i); have h3 := HL.out; simp [numL_length] at h1 h2 ⊢; omega); rintro e w' ⟨rfl, v', hq1, hq2, hq3⟩; have HN := Lib.hid (HBW.out.step (by decide) hq1 hq2 hq3); clear hq1 hq2 hq3)
        go_wp2_with (fail)
        go_roundw
        case rel => exact ⟨i + 1, _, hlt, ⟨by have h := HN.out; rw [HXX.out.1] at h; rw [take_next l i hlt, dataL_snoc]; simpa [List.append_assoc] using h⟩, by go_num⟩
        case measure => simp [intOf]; omega
      · obtain rfl : i = l.length := by omega
        have hcv := RowM.string (P := Try.prog) Try.underlying78 Try.underlying5 Try.underlying9 HBW.out.row
        go_wp2
        go_ret
        exact ⟨by rw [bodyL, List.append_assoc]; rfl, HBW.out.below⟩
  · go_enter Try.func40, Try.ntmps40
    go_wp2_with (fail)
    (refine (impl_ValidFrame.calls true id rtr dlc A c l true _ (Kd.C_below HR.out ((Below.refl _ _).alloc (Nat.le_refl _) _)) HC.out HV.out).mono ?_; rintro e w1 ⟨rfl, hb1⟩; have HB1 := Lib.hid hb1; clear hb1; have HBW : Hid (BW 5 78 w (w1.alloc (.cells #[.slice none 0 0] 78)) w.heap.size w1.heap.size #[.bool true, .int .u32 id, .bool rtr, .int .i64 dlc, .slice A l.length c] 43 (.slice none 0 0) []) := Lib.hid ⟨blk_alloc (blk_below (blk_new w _) HB1.out) _, blk_new _ _, RowM.nil _ _ _, ((Below.refl _ _).alloc (Nat.le_refl _) _).trans ⟨HB1.out.os, HB1.out.tape, HB1.out.output, HB1.out.size, fun k hk => HB1.out.block k (by simp; omega)⟩ |>.alloc (by have := HB1.out.size; simp at this; omega) _, Nat.le_refl _, by have := HB1.out.size; simp at this; omega, by have := HB1.out.size; simp at this; omega⟩; have hc0 := blk_cell HBW.out.box 0; have hc1 := blk_cell HBW.out.box 1; have hc2 := blk_cell HBW.out.box 2; have hc3 := blk_cell HBW.out.box 3; have hc4 := blk_cell HBW.out.box 4; simp only [box5_0, box5_1, box5_2, box5_3, box5_4] at hc0 hc1 hc2 hc3 hc4)
    go_wp2_with (fail)
    ((with_reducible refine (impl_letters_number.at 0 1 _ _ _ 0 1 w.heap.size _ HBW.out.ptr HBW.out.row HBW.out.below.size rfl ?hu rfl (by omega) ?hl).mono ?_); (case hu => omega); (case hl => simp [numL_length, flagL]); rintro e w' ⟨rfl, v', hq1, hq2, hq3⟩; have HN := Lib.hid (HBW.out.step (by decide) hq1 hq2 hq3); clear hq1 hq2 hq3 hc0 hc1 hc2 hc3 hc4 HBW; have HBW := HN; clear HN; have hc0 := blk_cell HBW.out.box 0; have hc1 := blk_cell HBW.out.box 1; have hc2 := blk_cell HBW.out.box 2; have hc3 := blk_cell HBW.out.box 3; have hc4 := blk_cell HBW.out.box 4; simp only [box5_0, box5_1, box5_2, box5_3, box5_4] at hc0 hc1 hc2 hc3 hc4)
    go_wp2_with (fail)
    ((with_reducible refine (impl_letters_number.at (id / 262144) 11 _ _ _ (id.toNat / 262144) 11 w.heap.size _ HBW.out.ptr HBW.out.row HBW.out.below.size HU2.out ?hu rfl (by omega) ?hl).mono ?_); (case hu => omega); (case hl => simp [numL_length, flagL]); rintro e w' ⟨rfl, v', hq1, hq2, hq3⟩; have HN := Lib.hid (HBW.out.step (by decide) hq1 hq2 hq3); clear hq1 hq2 hq3 hc0 hc1 hc2 hc3 hc4 HBW; have HBW := HN; clear HN; have hc0 := blk_cell HBW.out.box 0; have hc1 := blk_cell HBW.out.box 1; have hc2 := blk_cell HBW.out.box 2; have hc3 := blk_cell HBW.out.box 3; have hc4 := blk_cell HBW.out.box 4; simp only [box5_0, box5_1, box5_2, box5_3, box5_4] at hc0 hc1 hc2 hc3 hc4)
    go_wp2_with (fail)
    ((with_reducible refine (impl_letters_number.at 3 2 _ _ _ 3 2 w.heap.size _ HBW.out.ptr HBW.out.row HBW.out.below.size rfl ?hu rfl (by omega) ?hl).mono ?_); (case hu => omega); (case hl => simp [numL_length, flagL]); rintro e w' ⟨rfl, v', hq1, hq2, hq3⟩; have HN := Lib.hid (HBW.out.step (by decide) hq1 hq2 hq3); clear hq1 hq2 hq3 hc0 hc1 hc2 hc3 hc4 HBW; have HBW := HN; clear HN; have hc0 := blk_cell HBW.out.box 0; have hc1 := blk_cell HBW.out.box 1; have hc2 := blk_cell HBW.out.box 2; have hc3 := blk_cell HBW.out.box 3; have hc4 := blk_cell HBW.out.box 4; simp only [box5_0, box5_1, box5_2, box5_3, box5_4] at hc0 hc1 hc2 hc3 hc4)
    go_wp2_with (fail)
    ((with_reducible refine (impl_letters_number.at id 18 _ _ _ id.toNat 18 w.heap.size _ HBW.out.ptr HBW.out.row HBW.out.below.size HU.out ?hu rfl (by omega) ?hl).mono ?_); (case hu => omega); (case hl => simp [numL_length, flagL]); rintro e w' ⟨rfl, v', hq1, hq2, hq3⟩; have HN := Lib.hid (HBW.out.step (by decide) hq1 hq2 hq3); clear hq1 hq2 hq3 hc0 hc1 hc2 hc3 hc4 HBW; have HBW := HN; clear HN; have hc0 := blk_cell HBW.out.box 0; have hc1 := blk_cell HBW.out.box 1; have hc2 := blk_cell HBW.out.box 2; have hc3 := blk_cell HBW.out.box 3; have hc4 := blk_cell HBW.out.box 4; simp only [box5_0, box5_1, box5_2, box5_3, box5_4] at hc0 hc1 hc2 hc3 hc4)
    go_wp2_with (fail)
    ((with_reducible refine (impl_letters_flag.calls _ _ _ rtr w.heap.size _ HBW.out.ptr HBW.out.row HBW.out.below.size ?hl).mono ?_); (case hl => simp [numL_length, flagL]); rintro e w' ⟨rfl, v', hq1, hq2, hq3⟩; have HN := Lib.hid (HBW.out.step (by decide) hq1 hq2 hq3); clear hq1 hq2 hq3 hc0 hc1 hc2 hc3 hc4 HBW; have HBW := HN; clear HN; have hc0 := blk_cell HBW.out.box 0; have hc1 := blk_cell HBW.out.box 1; have hc2 := blk_cell HBW.out.box 2; have hc3 := blk_cell HBW.out.box 3; have hc4 := blk_cell HBW.out.box 4; simp only [box5_0, box5_1, box5_2, box5_3, box5_4] at hc0 hc1 hc2 hc3 hc4)
    go_wp2_with (fail)
    ((with_reducible refine (impl_letters_number.at 0 2 _ _ _ 0 2 w.heap.size _ HBW.out.ptr HBW.out.row HBW.out.below.size rfl ?hu rfl (by omega) ?hl).mono ?_); (case hu => omega); (case hl => simp [numL_length, flagL]); rintro e w' ⟨rfl, v', hq1, hq2, hq3⟩; have HN := Lib.hid (HBW.out.step (by decide) hq1 hq2 hq3); clear hq1 hq2 hq3 hc0 hc1 hc2 hc3 hc4 HBW; have HBW := HN; clear HN; have hc0 := blk_cell HBW.out.box 0; have hc1 := blk_cell HBW.out.box 1; have hc2 := blk_cell HBW.out.box 2; have hc3 := blk_cell HBW.out.box 3; have hc4 := blk_cell HBW.out.box 4; simp only [box5_0, box5_1, box5_2, box5_3, box5_4] at hc0 hc1 hc2 hc3 hc4)
    go_wp2_with (fail)
    ((with_reducible refine (impl_letters_number.at dlc 4 _ _ _ dlc.toNat 4 w.heap.size _ HBW.out.ptr HBW.out.row HBW.out.below.size HD.out ?hu rfl (by omega) ?hl).mono ?_); (case hu => omega); (case hl => simp [numL_length, flagL]); rintro e w' ⟨rfl, v', hq1, hq2, hq3⟩; have HN := Lib.hid (HBW.out.step (by decide) hq1 hq2 hq3); clear hq1 hq2 hq3 hc0 hc1 hc2 hc3 hc4 HBW; have HBW := HN; clear HN; have hc0 := blk_cell HBW.out.box 0; have hc1 := blk_cell HBW.out.box 1; have hc2 := blk_cell HBW.out.box 2; have hc3 := blk_cell HBW.out.box 3; have hc4 := blk_cell HBW.out.box 4; simp only [box5_0, box5_1, box5_2, box5_3, box5_4] at hc0 hc1 hc2 hc3 hc4)
    go_wp2_with (fail)
    have HBW' : Hid (BW 5 78 w _ w.heap.size w1.heap.size _ 43 _ (headL true id rtr ++ numL dlc.toNat 4 ++ dataL (l.take 0))) := Lib.hid (by have h := HBW.out; simpa [headL, dataL, flagL] using h)
    clear hc0 hc1 hc2 hc3 hc4 HBW
    go_loopw [38] (fun v38 wr => ∃ (i : Nat) (v : Value), i ≤ l.length ∧ Aside0 (BW 5 78 w wr w.heap.size w1.heap.size #[.bool true, .int .u32 id, .bool rtr, .int .i64 dlc, .slice A l.length c] 43 v (headL true id rtr ++ numL dlc.toNat 4 ++ dataL (l.take i))) ∧ v38 = .int .i64 i) (fun v38 _ => l.length - (intOf v38).toNat)
    case atStart => exact ⟨0, _, Nat.zero_le _, ⟨HBW'.out⟩, rfl⟩
    case round =>
      obtain ⟨i, v, hi, HBW, rfl⟩ := hrel
      have hptr := blk_cell HBW.out.ptr 0
      simp only [box1_0] at hptr
      by_cases hlt : i < l.length
      · obtain ⟨ad, ea, hcell⟩ := Kd.at_int (Kd.C_below HR.out HBW.out.below) (i : Int) (by omega) (by omega)
        subst ea
        have HBY := Lib.hid (okBytes_at HOB.out i hlt)
        have HX : Hid (rd l (i : Int) = ((rd l (i : Int)).toNat : Int)) := Lib.hid (by have := HBY.out; omega)
        rw [HX.out, Int.toNat_natCast] at hcell
        generalize hxx : (rd l (i : Int)).toNat = x at hcell
        have HXX : Hid (x = (rd l (i : Int)).toNat ∧ x < 256) := Lib.hid ⟨hxx.symm, by have := HBY.out; omega⟩
        have hx256 : x < 256 := HXX.out.2
        clear hxx
        go_wp2_with (fail)
        ((with_reducible refine (impl_letters_number.at (x : Int) 8 _ _ _ x 8 w.heap.size _ HBW.out.ptr HBW.out.row HBW.out.below.size rfl ?hu rfl (by omega) ?hl).mono ?_); (case hu => omega); (case hl => have h1 := headL_length true id rtr; have h2 := dataL_length (l.take i); have h3 := HL.out; simp [numL_length] at h1 h2 ⊢; omega); rintro e w' ⟨rfl, v', hq1, hq2, hq3⟩; have HN := Lib.hid (HBW.out.step (by decide) hq1 hq2 hq3); clear hq1 hq2 hq3)
        go_wp2_with (fail)
        go_roundw
        case rel => exact ⟨i + 1, _, hlt, ⟨by have h := HN.out; rw [HXX.out.1] at h; rw [take_next l i hlt, dataL_snoc]; simpa [List.append_assoc] using h⟩, by go_num⟩
        case measure => simp [intOf]; omega
      · obtain rfl : i = l.length := by omega
        have hcv := RowM.string (P := Try.prog) Try.underlying78 Try.underlying5 Try.underlying9 HBW.out.row
        go_wp2
        go_ret
        exact ⟨by rw [bodyL, List.append_assoc]; rfl, HBW.out.below⟩
theorem impl_Body.calls (a0_0 : Bool) (a0_1 : Int) (a0_2 : Bool) (a0_3 : Int) (A0_4 : Option Addr) (c0_4 : Nat) (l0_4 : List Int) (r : ByteArray) (w : World) (hr0_4 : Kd.C (Kd.int .u8) w A0_4 l0_4.length l0_4) (hc0_4 : l0_4.length ≤ c0_4) (h : impl_Body.f a0_0 a0_1 a0_2 a0_3 l0_4 = some r) :
    Calls Try.prog 40 #[.agg #[.bool a0_0, .int .u32 a0_1, .bool a0_2, .int .i64 a0_3, .slice A0_4 l0_4.length c0_4]] w fun e w' => e = .returned (.string r) ∧ Below w.heap.size w w' := by
  unfold impl_Body.f at h
  by_cases c : 0 ≤ a0_1 ∧ okBytes l0_4 = true
  · rw [if_pos c] at h
    have hr := (Option.some.inj h).symm
    unfold bodyV at hr
    cases hv : validF a0_0 a0_1 a0_2 a0_3 l0_4.length with
    | true =>
      rw [hv, if_pos rfl] at hr
      subst hr
      exact impl_Body.yes a0_0 a0_1 a0_2 a0_3 A0_4 c0_4 l0_4 w hr0_4 hc0_4 c.1 c.2 hv
    | false =>
      rw [hv, if_neg (by decide)] at hr
      subst hr
      have HV : Hid (impl_ValidFrame.f a0_0 a0_1 a0_2 a0_3 l0_4 = some false) := Lib.hid (by unfold impl_ValidFrame.f; rw [hv])
      have HR := Lib.hid hr0_4
      have HC := Lib.hid hc0_4
      clear hv h c hr0_4 hc0_4
      go_enter Try.func40, Try.ntmps40
      go_wp2_with (fail)
      (refine (impl_ValidFrame.calls a0_0 a0_1 a0_2 a0_3 A0_4 c0_4 l0_4 false _ (Kd.C_below HR.out ((Below.refl _ _).alloc (Nat.le_refl _) _)) HC.out HV.out).mono ?_; rintro e w1 ⟨rfl, hb1⟩; have HB1 := Lib.hid hb1; clear hb1)
      go_wp2
      go_ret
      exact ⟨rfl, ((Below.refl _ _).alloc (Nat.le_refl _) _).trans ⟨HB1.out.os, HB1.out.tape, HB1.out.output, HB1.out.size, fun k hk => HB1.out.block k (by simp; omega)⟩⟩
  · rw [if_neg c] at h; cases h

end Go.Proofs.Ytogedkkdhonmlaa.P
