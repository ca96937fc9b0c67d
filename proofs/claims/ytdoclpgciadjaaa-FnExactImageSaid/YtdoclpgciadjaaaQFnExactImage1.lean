import Derived.Test.YtdoclpgciadjaaaQFnExactImage0
import Derived.Laws.BitsLemmas
import Derived.Laws.BitsAllLaws
import Derived.Lib.Strings
import Derived.Lib.SmallJoins
import Derived.Deep.QuietTactic
import Derived.BigQuiet

namespace Go.Proofs.Ytdoclpgciadjaaa.P
open Go.RowKit Go.Proofs.YtdoclpgciadjaaaW.PrintWords Go.Proofs.YtdoclpgciadjaaaW.PrintLast Go.Proofs.YtdoclpgciadjaaaW.PrintMore
attribute [local go_sem] max2_int min2_int max_two min_two max_three min_three max_four min_four
set_option linter.unusedVariables false
set_option linter.unusedSimpArgs false

-- GIVEN rounds=0 making=1 import=Derived.Test.YtdoclpgciadjaaaRow8
/-! ### impl_Body: function 15 -/
def okBytes (l : List Int) : Bool := l.all fun x => decide (0 ≤ x) && decide (x < 256)
theorem okBytes_at {l : List Int} (h : okBytes l = true) (i : Nat) (hi : i < l.length) : 0 ≤ rd l (i : Int) ∧ rd l (i : Int) < 256 := by
  have := List.all_eq_true.1 h _ (List.mem_of_getElem? (rd_get l i hi))
  simpa using this
def bodyV (ext : Bool) (id : Int) (rtr : Bool) (dlc : Int) (data : List Int) : ByteArray := if validF ext id rtr dlc data.length = true then strOfNums (bodyL ext id rtr dlc data) else ⟨#[]⟩
def impl_Body.f (a0_0 : Bool) (a0_1 : Int) (a0_2 : Bool) (a0_3 : Int) (l0_4 : List Int) : Option (ByteArray) := if 0 ≤ a0_1 ∧ okBytes l0_4 = true then some (bodyV a0_0 a0_1 a0_2 a0_3 l0_4) else none
theorem valid_parts {ext : Bool} {id : Int} {rtr : Bool} {dlc : Int} {n : Nat} (h : validF ext id rtr dlc n = true) : id < vtop ext ∧ 0 ≤ dlc ∧ dlc ≤ 15 ∧ (n : Int) = dataB rtr dlc ∧ n ≤ 8 := by
  unfold validF at h
  rw [Bool.and_eq_true, Bool.and_eq_true, Bool.and_eq_true] at h
  obtain ⟨h1, h2, h3, h4⟩ := h
  have h5 : (n : Int) = dataB rtr dlc := by simpa using h4
  refine ⟨of_decide_eq_true h1, of_decide_eq_true h2, of_decide_eq_true h3, h5, ?_⟩
  unfold dataB at h5
  split at h5
  · omega
  · split at h5
    · omega
    · have := of_decide_eq_true h2; have := of_decide_eq_true h3; omega
section
variable {v0 v1 v2 v3 v4 : Value}
theorem box5_0 : (#[v0, v1, v2, v3, v4] : Array Value)[0]? = some v0 := rfl
theorem box5_1 : (#[v0, v1, v2, v3, v4] : Array Value)[1]? = some v1 := rfl
theorem box5_2 : (#[v0, v1, v2, v3, v4] : Array Value)[2]? = some v2 := rfl
theorem box5_3 : (#[v0, v1, v2, v3, v4] : Array Value)[3]? = some v3 := rfl
theorem box1_0 : (#[v0] : Array Value)[0]? = some v0 := rfl
theorem box5_4 : (#[v0, v1, v2, v3, v4] : Array Value)[4]? = some v4 := rfl
end
theorem take_next (l : List Int) (i : Nat) (h : i < l.length) : l.take (i + 1) = l.take i ++ [rd l (i : Int)] := by
  rw [List.take_succ_eq_append_getElem h]
  have := rd_get l i h
  rw [List.getElem?_eq_getElem h] at this
  rw [Option.some.inj this]
set_option maxHeartbeats 4000000 in
theorem impl_Body.yes (ext : Bool) (id : Int) (rtr : Bool) (dlc : Int) (A : Option Addr) (c : Nat) (l : List Int) (w : World) (hr : Kd.C (Kd.int .u8) w A l.length l) (hc : l.length ≤ c) (h0 : 0 ≤ id) (hb : okBytes l = true) (hv : validF ext id rtr dlc l.length = true) :
    Calls Try.prog 15 #[.agg #[.bool ext, .int .u32 id, .bool rtr, .int .i64 dlc, .slice A l.length c]] w fun e w' => e = .returned (.string (strOfNums (bodyL ext id rtr dlc l))) ∧ Below w.heap.size w w' := by
  obtain ⟨hid, hd0, hd1, -, hn8⟩ := valid_parts hv
  have HV : Hid (impl_ValidFrame.f ext id rtr dlc l = some true) := Lib.hid (by unfold impl_ValidFrame.f; rw [hv])
  have HR := Lib.hid hr
  have HC := Lib.hid hc
  have HOB := Lib.hid hb
  have hid2 : id < 536870912 := by unfold vtop at hid; split at hid <;> omega
  have HID : Hid (ext = false → id < 2048) := Lib.hid (fun e => by rw [e] at hid; exact hid)
  have HU : Hid (id = (id.toNat : Int)) := Lib.hid (by omega)
  have HD : Hid (dlc = (dlc.toNat : Int)) := Lib.hid (by omega)
  have HU2 : Hid (id / 262144 = ((id.toNat / 262144 : Nat) : Int)) := Lib.hid (by omega)
  have HL : Hid (l.length ≤ 8) := Lib.hid hn8
  have hm8 : l.length ≤ 9223372036854775807 := by omega
  clear hv hr hc hb hid hn8
  cases ext
  · go_enter Try.func15, Try.ntmps15
    go_wp2_with (fail)
    (refine (impl_ValidFrame.calls false id rtr dlc A c l true _ (Kd.C_below HR.out ((Below.refl _ _).alloc (Nat.le_refl _) _)) HC.out HV.out).mono ?_; rintro e w1 ⟨rfl, hb1⟩; have HB1 := Lib.hid hb1; clear hb1; have HBW : Hid (BW 5 107 w (w1.alloc (.cells #[.slice none 0 0] 107)) w.heap.size w1.heap.size #[.bool false, .int .u32 id, .bool rtr, .int .i64 dlc, .slice A l.length c] 25 (.slice none 0 0) []) := Lib.hid ⟨blk_alloc (blk_below (blk_new w _) HB1.out) _, blk_new _ _, RowM.nil _ _ _, ((Below.refl _ _).alloc (Nat.le_refl _) _).trans ⟨HB1.out.os, HB1.out.tape, HB1.out.output, HB1.out.size, fun k hk => HB1.out.block k (by simp; omega)⟩ |>.alloc (by have := HB1.out.size; simp at this; omega) _, Nat.le_refl _, by have := HB1.out.size; simp at this; omega, by have := HB1.out.size; simp at this; omega⟩; have hc0 := blk_cell HBW.out.box 0; have hc1 := blk_cell HBW.out.box 1; have hc2 := blk_cell HBW.out.box 2; have hc3 := blk_cell HBW.out.box 3; have hc4 := blk_cell HBW.out.box 4; simp only [box5_0, box5_1, box5_2, box5_3, box5_4] at hc0 hc1 hc2 hc3 hc4)
    go_wp2_with (fail)
    ((with_reducible refine (impl_letters_number.at 0 1 _ _ _ 0 1 w.heap.size _ HBW.out.ptr HBW.out.row HBW.out.below.size rfl ?hu rfl (by omega) ?hl).mono ?_); (case hu => omega); (case hl => simp [numL_length, flagL]); rintro e w' ⟨rfl, v', hq1, hq2, hq3⟩; have HN := Lib.hid (HBW.out.step (by decide) hq1 hq2 hq3); clear hq1 hq2 hq3 hc0 hc1 hc2 hc3 hc4 HBW; have HBW := HN; clear HN; have hc0 := blk_cell HBW.out.box 0; have hc1 := blk_cell HBW.out.box 1; have hc2 := blk_cell HBW.out.box 2; have hc3 := blk_cell HBW.out.box 3; have hc4 := blk_cell HBW.out.box 4; simp only [box5_0, box5_1, box5_2, box5_3, box5_4] at hc0 hc1 hc2 hc3 hc4)
    go_wp2_with (fail)
    ((with_reducible refine (impl_letters_number.at id 11 _ _ _ id.toNat 11 w.heap.size _ HBW.out.ptr HBW.out.row HBW.out.below.size HU.out ?hu rfl (by omega) ?hl).mono ?_); (case hu => omega); (case hl => simp [numL_length, flagL]); rintro e w' ⟨rfl, v', hq1, hq2, hq3⟩; have HN := Lib.hid (HBW.out.step (by decide) hq1 hq2 hq3); clear hq1 hq2 hq3 hc0 hc1 hc2 hc3 hc4 HBW; have HBW := HN; clear HN; have hc0 := blk_cell HBW.out.box 0; have hc1 := blk_cell HBW.out.box 1; have hc2 := blk_cell HBW.out.box 2; have hc3 := blk_cell HBW.out.box 3; have hc4 := blk_cell HBW.out.box 4; simp only [box5_0, box5_1, box5_2, box5_3, box5_4] at hc0 hc1 hc2 hc3 hc4)
    go_wp2_with (fail)
    ((with_reducible refine (impl_letters_flag.calls _ _ _ rtr w.heap.size _ HBW.out.ptr HBW.out.row HBW.out.below.size ?hl).mono ?_); (case hl => simp [numL_length, flagL]); rintro e w' ⟨rfl, v', hq1, hq2, hq3⟩; have HN := Lib.hid (HBW.out.step (by decide) hq1 hq2 hq3); clear hq1 hq2 hq3 hc0 hc1 hc2 hc3 hc4 HBW; have HBW := HN; clear HN; have hc0 := blk_cell HBW.out.box 0; have hc1 := blk_cell HBW.out.box 1; have hc2 := blk_cell HBW.out.box 2; have hc3 := blk_cell HBW.out.box 3; have hc4 := blk_cell HBW.out.box 4; simp only [box5_0, box5_1, box5_2, box5_3, box5_4] at hc0 hc1 hc2 hc3 hc4)
    go_wp2_with (fail)
    ((with_reducible refine (impl_letters_number.at 0 2 _ _ _ 0 2 w.heap.size _ HBW.out.ptr HBW.out.row HBW.out.below.size rfl ?hu rfl (by omega) ?hl).mono ?_); (case hu => omega); (case hl => simp [numL_length, flagL]); rintro e w' ⟨rfl, v', hq1, hq2, hq3⟩; have HN := Lib.hid (HBW.out.step (by decide) hq1 hq2 hq3); clear hq1 hq2 hq3 hc0 hc1 hc2 hc3 hc4 HBW; have HBW := HN; clear HN; have hc0 := blk_cell HBW.out.box 0; have hc1 := blk_cell HBW.out.box 1; have hc2 := blk_cell HBW.out.box 2; have hc3 := blk_cell HBW.out.box 3; have hc4 := blk_cell HBW.out.box 4; simp only [box5_0, box5_1, box5_2, box5_3, box5_4] at hc0 hc1 hc2 hc3 hc4)
    go_wp2_with (fail)
    ((with_reducible refine (impl_letters_number.at dlc 4 _ _ _ dlc.toNat 4 w.heap.size _ HBW.out.ptr HBW.out.row HBW.out.below.size HD.out ?hu rfl (by omega) ?hl).mono ?_); (case hu => omega); (case hl => simp [numL_length, flagL]); rintro e w' ⟨rfl, v', hq1, hq2, hq3⟩; have HN := Lib.hid (HBW.out.step (by decide) hq1 hq2 hq3); clear hq1 hq2 hq3 hc0 hc1 hc2 hc3 hc4 HBW; have HBW := HN; clear HN; have hc0 := blk_cell HBW.out.box 0; have hc1 := blk_cell HBW.out.box 1; have hc2 := blk_cell HBW.out.box 2; have hc3 := blk_cell HBW.out.box 3; have hc4 := blk_cell HBW.out.box 4; simp only [box5_0, box5_1, box5_2, box5_3, box5_4] at hc0 hc1 hc2 hc3 hc4)
    go_wp2_with (fail)
    have HBW' : Hid (BW 5 107 w _ w.heap.size w1.heap.size _ 25 _ (headL false id rtr ++ numL dlc.toNat 4 ++ dataL (l.take 0))) := Lib.hid (by have h := HBW.out; simpa [headL, dataL, flagL] using h)
    clear hc0 hc1 hc2 hc3 hc4 HBW
    go_loopw [38] (fun v38 wr => ∃ (i : Nat) (v : Value), i ≤ l.length ∧ Aside0 (BW 5 107 w wr w.heap.size w1.heap.size #[.bool false, .int .u32 id, .bool rtr, .int .i64 dlc, .slice A l.length c] 25 v (headL false id rtr ++ numL dlc.toNat 4 ++ dataL (l.take i))) ∧ v38 = .int .i64 i) (fun v38 _ => l.length - (intOf v38).toNat)
    case atStart => exact ⟨0, _, Nat.zero_le _, ⟨HBW'.out⟩, rfl⟩
    case round =>
      obtain ⟨i, v, hi, HBW, rfl⟩ := hrel
      have hptr := blk_cell HBW.out.ptr 0
      simp only [box1_0] at hptr
      by_cases hlt : i < l.length
      · obtain ⟨ad, ea, hcell⟩ := Kd.at_int (Kd.C_below HR.out HBW.out.below) (i : Int) (by omega) (by omega)
        subst ea
        have HBY := Lib.hid (okBytes_at HOB.out i hlt)
        have HX : Hid (rd l (i : Int) = ((rd l (i : Int)).toNat : Int)) := Lib.hid (by have := HBY.out; omega)
        rw [HX.out, Int.toNat_natCast] at hcell
        generalize hxx : (rd l (i : Int)).toNat = x at hcell
        have HXX : Hid (x = (rd l (i : Int)).toNat ∧ x < 256) := Lib.hid ⟨hxx.symm, by have := HBY.out; omega⟩
        have hx256 : x < 256 := HXX.out.2
        clear hxx
        go_wp2_with (fail)
        ((with_reducible refine (impl_letters_number.at (x : Int) 8 _ _ _ x 8 w.heap.size _ HBW.out.ptr HBW.out.row HBW.out.below.size rfl ?hu rfl (by omega) ?hl).mono ?_); (case hu => omega); (case hl => have h1 := headL_length false id rtr; have h2 := dataL_length (l.take i); have h3 := HL.out; simp [numL_length] at h1 h2 ⊢; omega); rintro e w' ⟨rfl, v', hq1, hq2, hq3⟩; have HN := Lib.hid (HBW.out.step (by decide) hq1 hq2 hq3); clear hq1 hq2 hq3)
        go_wp2_with (fail)
        go_roundw
        case rel => exact ⟨i + 1, _, hlt, ⟨by have h := HN.out; rw [HXX.out.1] at h; rw [take_next l i hlt, dataL_snoc]; simpa [List.append_assoc] using h⟩, by go_num⟩
        case measure => simp [intOf]; omega
      · obtain rfl : i = l.length := by omega
        have hcv := RowM.string (P := Try.prog) Try.underlying107 Try.underlying5 Try.underlying9 HBW.out.row
        go_wp2
        go_ret
        exact ⟨by rw [bodyL, List.append_assoc]; rfl, HBW.out.below⟩
  · go_enter Try.func15, Try.ntmps15
    go_wp2_with (fail)
    (refine (impl_ValidFrame.calls true id rtr dlc A c l true _ (Kd.C_below HR.out ((Below.refl _ _).alloc (Nat.le_refl _) _)) HC.out HV.out).mono ?_; rintro e w1 ⟨rfl, hb1⟩; have HB1 := Lib.hid hb1; clear hb1; have HBW : Hid (BW 5 107 w (w1.alloc (.cells #[.slice none 0 0] 107)) w.heap.size w1.heap.size #[.bool true, .int .u32 id, .bool rtr, .int .i64 dlc, .slice A l.length c] 25 (.slice none 0 0) []) := Lib.hid ⟨blk_alloc (blk_below (blk_new w _) HB1.out) _, blk_new _ _, RowM.nil _ _ _, ((Below.refl _ _).alloc (Nat.le_refl _) _).trans ⟨HB1.out.os, HB1.out.tape, HB1.out.output, HB1.out.size, fun k hk => HB1.out.block k (by simp; omega)⟩ |>.alloc (by have := HB1.out.size; simp at this; omega) _, Nat.le_refl _, by have := HB1.out.size; simp at this; omega, by have := HB1.out.size; simp at this; omega⟩; have hc0 := blk_cell HBW.out.box 0; have hc1 := blk_cell HBW.out.box 1; have hc2 := blk_cell HBW.out.box 2; have hc3 := blk_cell HBW.out.box 3; have hc4 := blk_cell HBW.out.box 4; simp only [box5_0, box5_1, box5_2, box5_3, box5_4] at hc0 hc1 hc2 hc3 hc4)
    go_wp2_with (fail)
    ((with_reducible refine (impl_letters_number.at 0 1 _ _ _ 0 1 w.heap.size _ HBW.out.ptr HBW.out.row HBW.out.below.size rfl ?hu rfl (by omega) ?hl).mono ?_); (case hu => omega); (case hl => simp [numL_length, flagL]); rintro e w' ⟨rfl, v', hq1, hq2, hq3⟩; have HN := Lib.hid (HBW.out.step (by decide) hq1 hq2 hq3); clear hq1 hq2 hq3 hc0 hc1 hc2 hc3 hc4 HBW; have HBW := HN; clear HN; have hc0 := blk_cell HBW.out.box 0; have hc1 := blk_cell HBW.out.box 1; have hc2 := blk_cell HBW.out.box 2; have hc3 := blk_cell HBW.out.box 3; have hc4 := blk_cell HBW.out.box 4; simp only [box5_0, box5_1, box5_2, box5_3, box5_4] at hc0 hc1 hc2 hc3 hc4)
    go_wp2_with (fail)
    ((with_reducible refine (impl_letters_number.at (id / 262144) 11 _ _ _ (id.toNat / 262144) 11 w.heap.size _ HBW.out.ptr HBW.out.row HBW.out.below.size HU2.out ?hu rfl (by omega) ?hl).mono ?_); (case hu => omega); (case hl => simp [numL_length, flagL]); rintro e w' ⟨rfl, v', hq1, hq2, hq3⟩; have HN := Lib.hid (HBW.out.step (by decide) hq1 hq2 hq3); clear hq1 hq2 hq3 hc0 hc1 hc2 hc3 hc4 HBW; have HBW := HN; clear HN; have hc0 := blk_cell HBW.out.box 0; have hc1 := blk_cell HBW.out.box 1; have hc2 := blk_cell HBW.out.box 2; have hc3 := blk_cell HBW.out.box 3; have hc4 := blk_cell HBW.out.box 4; simp only [box5_0, box5_1, box5_2, box5_3, box5_4] at hc0 hc1 hc2 hc3 hc4)
    go_wp2_with (fail)
    ((with_reducible refine (impl_letters_number.at 3 2 _ _ _ 3 2 w.heap.size _ HBW.out.ptr HBW.out.row HBW.out.below.size rfl ?hu rfl (by omega) ?hl).mono ?_); (case hu => omega); (case hl => simp [numL_length, flagL]); rintro e w' ⟨rfl, v', hq1, hq2, hq3⟩; have HN := Lib.hid (HBW.out.step (by decide) hq1 hq2 hq3); clear hq1 hq2 hq3 hc0 hc1 hc2 hc3 hc4 HBW; have HBW := HN; clear HN; have hc0 := blk_cell HBW.out.box 0; have hc1 := blk_cell HBW.out.box 1; have hc2 := blk_cell HBW.out.box 2; have hc3 := blk_cell HBW.out.box 3; have hc4 := blk_cell HBW.out.box 4; simp only [box5_0, box5_1, box5_2, box5_3, box5_4] at hc0 hc1 hc2 hc3 hc4)
    go_wp2_with (fail)
    ((with_reducible refine (impl_letters_number.at id 18 _ _ _ id.toNat 18 w.heap.size _ HBW.out.ptr HBW.out.row HBW.out.below.size HU.out ?hu rfl (by omega) ?hl).mono ?_); (case hu => omega); (case hl => simp [numL_length, flagL]); rintro e w' ⟨rfl, v', hq1, hq2, hq3⟩; have HN := Lib.hid (HBW.out.step (by decide) hq1 hq2 hq3); clear hq1 hq2 hq3 hc0 hc1 hc2 hc3 hc4 HBW; have HBW := HN; clear HN; have hc0 := blk_cell HBW.out.box 0; have hc1 := blk_cell HBW.out.box 1; have hc2 := blk_cell HBW.out.box 2; have hc3 := blk_cell HBW.out.box 3; have hc4 := blk_cell HBW.out.box 4; simp only [box5_0, box5_1, box5_2, box5_3, box5_4] at hc0 hc1 hc2 hc3 hc4)
    go_wp2_with (fail)
    ((with_reducible refine (impl_letters_flag.calls _ _ _ rtr w.heap.size _ HBW.out.ptr HBW.out.row HBW.out.below.size ?hl).mono ?_); (case hl => simp [numL_length, flagL]); rintro e w' ⟨rfl, v', hq1, hq2, hq3⟩; have HN := Lib.hid (HBW.out.step (by decide) hq1 hq2 hq3); clear hq1 hq2 hq3 hc0 hc1 hc2 hc3 hc4 HBW; have HBW := HN; clear HN; have hc0 := blk_cell HBW.out.box 0; have hc1 := blk_cell HBW.out.box 1; have hc2 := blk_cell HBW.out.box 2; have hc3 := blk_cell HBW.out.box 3; have hc4 := blk_cell HBW.out.box 4; simp only [box5_0, box5_1, box5_2, box5_3, box5_4] at hc0 hc1 hc2 hc3 hc4)
    go_wp2_with (fail)
    ((with_reducible refine (impl_letters_number.at 0 2 _ _ _ 0 2 w.heap.size _ HBW.out.ptr HBW.out.row HBW.out.below.size rfl ?hu rfl (by omega) ?hl).mono ?_); (case hu => omega); (case hl => simp [numL_length, flagL]); rintro e w' ⟨rfl, v', hq1, hq2, hq3⟩; have HN := Lib.hid (HBW.out.step (by decide) hq1 hq2 hq3); clear hq1 hq2 hq3 hc0 hc1 hc2 hc3 hc4 HBW; have HBW := HN; clear HN; have hc0 := blk_cell HBW.out.box 0; have hc1 := blk_cell HBW.out.box 1; have hc2 := blk_cell HBW.out.box 2; have hc3 := blk_cell HBW.out.box 3; have hc4 := blk_cell HBW.out.box 4; simp only [box5_0, box5_1, box5_2, box5_3, box5_4] at hc0 hc1 hc2 hc3 hc4)
    go_wp2_with (fail)
    ((with_reducible refine (impl_letters_number.at dlc 4 _ _ _ dlc.toNat 4 w.heap.size _ HBW.out.ptr HBW.out.row HBW.out.below.size HD.out ?hu rfl (by omega) ?hl).mono ?_); (case hu => omega); (case hl => simp [numL_length, flagL]); rintro e w' ⟨rfl, v', hq1, hq2, hq3⟩; have HN := Lib.hid (HBW.out.step (by decide) hq1 hq2 hq3); clear hq1 hq2 hq3 hc0 hc1 hc2 hc3 hc4 HBW; have HBW := HN; clear HN; have hc0 := blk_cell HBW.out.box 0; have hc1 := blk_cell HBW.out.box 1; have hc2 := blk_cell HBW.out.box 2; have hc3 := blk_cell HBW.out.box 3; have hc4 := blk_cell HBW.out.box 4; simp only [box5_0, box5_1, box5_2, box5_3, box5_4] at hc0 hc1 hc2 hc3 hc4)
    go_wp2_with (fail)
    have HBW' : Hid (BW 5 107 w _ w.heap.size w1.heap.size _ 25 _ (headL true id rtr ++ numL dlc.toNat 4 ++ dataL (l.take 0))) := Lib.hid (by have h := HBW.out; simpa [headL, dataL, flagL] using h)
    clear hc0 hc1 hc2 hc3 hc4 HBW
    go_loopw [38] (fun v38 wr => ∃ (i : Nat) (v : Value), i ≤ l.length ∧ Aside0 (BW 5 107 w wr w.heap.size w1.heap.size #[.bool true, .int .u32 id, .bool rtr, .int .i64 dlc, .slice A l.length c] 25 v (headL true id rtr ++ numL dlc.toNat 4 ++ dataL (l.take i))) ∧ v38 = .int .i64 i) (fun v38 _ => l.length - (intOf v38).toNat)
    case atStart => exact ⟨0, _, Nat.zero_le _, ⟨HBW'.out⟩, rfl⟩
    case round =>
      obtain ⟨i, v, hi, HBW, rfl⟩ := hrel
      have hptr := blk_cell HBW.out.ptr 0
      simp only [box1_0] at hptr
      by_cases hlt : i < l.length
      · obtain ⟨ad, ea, hcell⟩ := Kd.at_int (Kd.C_below HR.out HBW.out.below) (i : Int) (by omega) (by omega)
        subst ea
        have HBY := Lib.hid (okBytes_at HOB.out i hlt)
        have HX : Hid (rd l (i : Int) = ((rd l (i : Int)).toNat : Int)) := Lib.hid (by have := HBY.out; omega)
        rw [HX.out, Int.toNat_natCast] at hcell
        generalize hxx : (rd l (i : Int)).toNat = x at hcell
        have HXX : Hid (x = (rd l (i : Int)).toNat ∧ x < 256) := Lib.hid ⟨hxx.symm, by have := HBY.out; omega⟩
        have hx256 : x < 256 := HXX.out.2
        clear hxx
        go_wp2_with (fail)
        ((with_reducible refine (impl_letters_number.at (x : Int) 8 _ _ _ x 8 w.heap.size _ HBW.out.ptr HBW.out.row HBW.out.below.size rfl ?hu rfl (by omega) ?hl).mono ?_); (case hu => omega); (case hl => have h1 := headL_length true id rtr; have h2 := dataL_length (l.take i); have h3 := HL.out; simp [numL_length] at h1 h2 ⊢; omega); rintro e w' ⟨rfl, v', hq1, hq2, hq3⟩; have HN := Lib.hid (HBW.out.step (by decide) hq1 hq2 hq3); clear hq1 hq2 hq3)
        go_wp2_with (fail)
        go_roundw
        case rel => exact ⟨i + 1, _, hlt, ⟨by have h := HN.out; rw [HXX.out.1] at h; rw [take_next l i hlt, dataL_snoc]; simpa [List.append_assoc] using h⟩, by go_num⟩
        case measure => simp [intOf]; omega
      · obtain rfl : i = l.length := by omega
        have hcv := RowM.string (P := Try.prog) Try.underlying107 Try.underlying5 Try.underlying9 HBW.out.row
        go_wp2
        go_ret
        exact ⟨by rw [bodyL, List.append_assoc]; rfl, HBW.out.below⟩
theorem impl_Body.calls (a0_0 : Bool) (a0_1 : Int) (a0_2 : Bool) (a0_3 : Int) (A0_4 : Option Addr) (c0_4 : Nat) (l0_4 : List Int) (r : ByteArray) (w : World) (hr0_4 : Kd.C (Kd.int .u8) w A0_4 l0_4.length l0_4) (hc0_4 : l0_4.length ≤ c0_4) (h : impl_Body.f a0_0 a0_1 a0_2 a0_3 l0_4 = some r) :
    Calls Try.prog 15 #[.agg #[.bool a0_0, .int .u32 a0_1, .bool a0_2, .int .i64 a0_3, .slice A0_4 l0_4.length c0_4]] w fun e w' => e = .returned (.string r) ∧ Below w.heap.size w w' := by
  unfold impl_Body.f at h
  by_cases c : 0 ≤ a0_1 ∧ okBytes l0_4 = true
  · rw [if_pos c] at h
    have hr := (Option.some.inj h).symm
    unfold bodyV at hr
    cases hv : validF a0_0 a0_1 a0_2 a0_3 l0_4.length with
    | true =>
      rw [hv, if_pos rfl] at hr
      subst hr
      exact impl_Body.yes a0_0 a0_1 a0_2 a0_3 A0_4 c0_4 l0_4 w hr0_4 hc0_4 c.1 c.2 hv
    | false =>
      rw [hv, if_neg (by decide)] at hr
      subst hr
      have HV : Hid (impl_ValidFrame.f a0_0 a0_1 a0_2 a0_3 l0_4 = some false) := Lib.hid (by unfold impl_ValidFrame.f; rw [hv])
      have HR := Lib.hid hr0_4
      have HC := Lib.hid hc0_4
      clear hv h c hr0_4 hc0_4
      go_enter Try.func15, Try.ntmps15
      go_wp2_with (fail)
      (refine (impl_ValidFrame.calls a0_0 a0_1 a0_2 a0_3 A0_4 c0_4 l0_4 false _ (Kd.C_below HR.out ((Below.refl _ _).alloc (Nat.le_refl _) _)) HC.out HV.out).mono ?_; rintro e w1 ⟨rfl, hb1⟩; have HB1 := Lib.hid hb1; clear hb1)
      go_wp2
      go_ret
      exact ⟨rfl, ((Below.refl _ _).alloc (Nat.le_refl _) _).trans ⟨HB1.out.os, HB1.out.tape, HB1.out.output, HB1.out.size, fun k hk => HB1.out.block k (by simp; omega)⟩⟩
  · rw [if_neg c] at h; cases h

end Go.Proofs.Ytdoclpgciadjaaa.P

namespace Go.Proofs.Ytdoclpgciadjaaa.P
open Go.RowKit Go.Proofs.YtdoclpgciadjaaaW.PrintWords Go.Proofs.YtdoclpgciadjaaaW.PrintLast Go.Proofs.YtdoclpgciadjaaaW.PrintMore
attribute [local go_sem] max2_int min2_int max_two min_two max_three min_three max_four min_four
set_option linter.unusedVariables false
set_option linter.unusedSimpArgs false

/-! ### spec_l1num: function 79 -/
def spec_l1num.f : Nat → Int → Int → Option (ByteArray)
  | 0, _, _ => none
  | k + 1, a0, a1 => if a1 ≤ 0 then (some (⟨#[]⟩ : ByteArray)) else (if (Int.tmod a0 2) = 1 then ((spec_l1num.f k (wrap64 (Int.tdiv a0 2)) (wrap64 (a1 - 1))).bind fun t106 => (if t106.size + 1 ≤ 9223372036854775807 then (some (t106 ++ (⟨#[49]⟩ : ByteArray))) else (none))) else ((spec_l1num.f k (wrap64 (Int.tdiv a0 2)) (wrap64 (a1 - 1))).bind fun t107 => (if t107.size + 1 ≤ 9223372036854775807 then (some (t107 ++ (⟨#[48]⟩ : ByteArray))) else (none))))
theorem spec_l1num.mono_l : ∀ k, (∀ y0 y1, LeO (spec_l1num.f k y0 y1) (spec_l1num.f (k + 1) y0 y1))
  | 0 => fun _ _ r h => by simp [spec_l1num.f] at h
  | k + 1 => by
    have ih0 := spec_l1num.mono_l k
    · intro y0 y1
      unfold spec_l1num.f
      repeat' first
      | (with_reducible exact ih0 _ _)
      | (with_reducible exact LeO.refl _)
      | (with_reducible exact LeO.none _)
      | (with_reducible refine LeO.ite ?_ ?_)
      | (with_reducible refine LeO.bind ?_ (fun _ => ?_))
      | exact ih0 _ _
      | exact LeO.none _
      | refine LeO.ite ?_ ?_
      | refine LeO.bind ?_ (fun _ => ?_)
theorem spec_l1num.mono : ∀ a0 a1 k, LeO (spec_l1num.f k a0 a1) (spec_l1num.f (k + 1) a0 a1) := by
  intro a0 a1 k
  have ih0 := spec_l1num.mono_l k
  exact ih0 a0 a1
set_option maxHeartbeats 8000000 in
set_option maxRecDepth 100000 in
theorem spec_l1num.calls (k : Nat) : ∀ (a0 : Int) (a1 : Int) (r : ByteArray) (w : World) (h : spec_l1num.f k a0 a1 = some r),
    Calls Try.prog 79 #[.int .i64 a0, .int .i64 a1] w fun e w' => e = .returned (.string r) ∧ Drawn0 w w' := by
  induction k using Nat.strongRecOn with
  | _ k ih =>
  intro a0 a1 r w h
  cases k with
  | zero => exact absurd h (by simp [spec_l1num.f])
  | succ k =>
  simp only [spec_l1num.f] at h
  have H : (if a1 ≤ 0 then (some (⟨#[]⟩ : ByteArray)) else (if (Int.tmod a0 2) = 1 then ((spec_l1num.f k (wrap64 (Int.tdiv a0 2)) (wrap64 (a1 - 1))).bind fun t106 => (if t106.size + 1 ≤ 9223372036854775807 then (some (t106 ++ (⟨#[49]⟩ : ByteArray))) else (none))) else ((spec_l1num.f k (wrap64 (Int.tdiv a0 2)) (wrap64 (a1 - 1))).bind fun t107 => (if t107.size + 1 ≤ 9223372036854775807 then (some (t107 ++ (⟨#[48]⟩ : ByteArray))) else (none))))) = some r := h
  clear h
  by_cases c3 : a1 ≤ 0
  · rw [if_pos c3] at H
    have c3b0 : decide (a1 ≤ 0) = true := decide_eq_true c3
    clear c3
    obtain rfl := Option.some.inj H
    go_enter Try.func79, Try.ntmps79
    go_wp2
    go_ret
    exact ⟨by first | rfl | (simp; done) | (simp [*]; done), by repeat (first | exact Drawn0.refl _ | apply Drawn0.step)⟩
  · rw [if_neg c3] at H
    have c3b0 : decide (a1 ≤ 0) = false := decide_eq_false c3
    clear c3
    by_cases c4 : (Int.tmod a0 2) = 1
    · rw [if_pos c4] at H
      have c4b0 : ((Int.tmod a0 2) == 1) = true := beq_iff_eq.mpr c4
      have c4b1 : ((Int.tmod a0 2) != 1) = false := bne_eq_false_iff_eq.mpr c4
      clear c4
      replace H := Option.bind_eq_some_iff.mp H
      obtain ⟨t106, A50, H⟩ := H
      replace H : (if t106.size + 1 ≤ 9223372036854775807 then (some (t106 ++ (⟨#[49]⟩ : ByteArray))) else (none)) = some r := H
      have A5 := Aside0.mk A50
      clear A50
      by_cases c6 : t106.size + 1 ≤ 9223372036854775807
      · rw [if_pos c6] at H
        have c6b0 := eq_true c6
        have c6b1 : decide (t106.size + 1 ≤ 9223372036854775807) = true := decide_eq_true c6
        try have c6b2 : (9223372036854775807 < t106.size + 1) = False := eq_false (Nat.not_lt.2 c6)
        obtain rfl := Option.some.inj H
        go_enter Try.func79, Try.ntmps79
        go_wp2_with (first | ((with_reducible refine gate_callee (f := 79) rfl ?_); refine goesL_ (some 15) rfl rfl Try.func79 (by kernel_rfl) rfl #[.int .i64 (wrap64 (Int.tdiv a0 2)), .int .i64 (wrap64 (a1 - 1))] rfl (by (try simp only [List.map_toArray, List.map_cons, List.map_nil]); first | done | rfl | (simp only [List.length_drop, List.length_take]; rfl)) ?_; (with_reducible refine (ih k (by omega) (wrap64 (Int.tdiv a0 2)) (wrap64 (a1 - 1)) t106 _ A5.out).mono ?_); rintro e w' ⟨rfl, ⟨nd, rfl⟩⟩; refine ⟨_, rfl, ?_⟩))
        go_ret
        exact ⟨by first | rfl | (simp; done) | (simp [*]; done), by repeat (first | exact Drawn0.refl _ | apply Drawn0.step)⟩
      · rw [if_neg c6] at H
        exact absurd H (by simp)
    · rw [if_neg c4] at H
      have c4b0 : ((Int.tmod a0 2) == 1) = false := beq_eq_false_iff_ne.mpr c4
      have c4b1 : ((Int.tmod a0 2) != 1) = true := bne_iff_ne.mpr c4
      replace H := Option.bind_eq_some_iff.mp H
      obtain ⟨t107, A70, H⟩ := H
      replace H : (if t107.size + 1 ≤ 9223372036854775807 then (some (t107 ++ (⟨#[48]⟩ : ByteArray))) else (none)) = some r := H
      have A7 := Aside0.mk A70
      clear A70
      by_cases c8 : t107.size + 1 ≤ 9223372036854775807
      · rw [if_pos c8] at H
        have c8b0 := eq_true c8
        have c8b1 : decide (t107.size + 1 ≤ 9223372036854775807) = true := decide_eq_true c8
        try have c8b2 : (9223372036854775807 < t107.size + 1) = False := eq_false (Nat.not_lt.2 c8)
        obtain rfl := Option.some.inj H
        go_enter Try.func79, Try.ntmps79
        go_wp2_with (first | ((with_reducible refine gate_callee (f := 79) rfl ?_); refine goesL_ (some 15) rfl rfl Try.func79 (by kernel_rfl) rfl #[.int .i64 (wrap64 (Int.tdiv a0 2)), .int .i64 (wrap64 (a1 - 1))] rfl (by (try simp only [List.map_toArray, List.map_cons, List.map_nil]); first | done | rfl | (simp only [List.length_drop, List.length_take]; rfl)) ?_; (with_reducible refine (ih k (by omega) (wrap64 (Int.tdiv a0 2)) (wrap64 (a1 - 1)) t107 _ A7.out).mono ?_); rintro e w' ⟨rfl, ⟨nd, rfl⟩⟩; refine ⟨_, rfl, ?_⟩))
        go_ret
        exact ⟨by first | rfl | (simp; done) | (simp [*]; done), by repeat (first | exact Drawn0.refl _ | apply Drawn0.step)⟩
      · rw [if_neg c8] at H
        exact absurd H (by simp)

end Go.Proofs.Ytdoclpgciadjaaa.P

namespace Go.Proofs.Ytdoclpgciadjaaa.P
open Go.RowKit Go.Proofs.YtdoclpgciadjaaaW.PrintWords Go.Proofs.YtdoclpgciadjaaaW.PrintLast Go.Proofs.YtdoclpgciadjaaaW.PrintMore
attribute [local go_sem] max2_int min2_int max_two min_two max_three min_three max_four min_four
set_option linter.unusedVariables false
set_option linter.unusedSimpArgs false

/-! ### spec_l1flag: function 80 -/
def spec_l1flag.f (a0 : Bool) : Option (ByteArray) := if a0 = true then (some (⟨#[49]⟩ : ByteArray)) else (some (⟨#[48]⟩ : ByteArray))
set_option maxHeartbeats 8000000 in
set_option maxRecDepth 100000 in
theorem spec_l1flag.calls (a0 : Bool) (r : ByteArray) (w : World) (h : spec_l1flag.f a0 = some r) :
    Calls Try.prog 80 #[.bool a0] w fun e w' => e = .returned (.string r) ∧ Drawn0 w w' := by
  have H : (if a0 = true then (some (⟨#[49]⟩ : ByteArray)) else (some (⟨#[48]⟩ : ByteArray))) = some r := h
  clear h
  by_cases c2 : a0 = true
  · subst c2
    have H1 : (some (⟨#[49]⟩ : ByteArray)) = some r := by rw [if_pos rfl] at H; exact H
    clear H
    have H := H1
    clear H1
    obtain rfl := Option.some.inj H
    go_enter Try.func80, Try.ntmps80
    go_wp2
    go_ret
    exact ⟨by first | rfl | (simp; done) | (simp [*]; done), by repeat (first | exact Drawn0.refl _ | apply Drawn0.step)⟩
  · replace c2 := Bool.eq_false_iff.mpr c2
    subst c2
    have H1 : (some (⟨#[48]⟩ : ByteArray)) = some r := by rw [if_neg (show ¬ (false = true) by decide)] at H; exact H
    clear H
    have H := H1
    clear H1
    obtain rfl := Option.some.inj H
    go_enter Try.func80, Try.ntmps80
    go_wp2
    go_ret
    exact ⟨by first | rfl | (simp; done) | (simp [*]; done), by repeat (first | exact Drawn0.refl _ | apply Drawn0.step)⟩

end Go.Proofs.Ytdoclpgciadjaaa.P

namespace Go.Proofs.Ytdoclpgciadjaaa.P
open Go Go.RowKit Go.Proofs.YtdoclpgciadjaaaW.PrintWords
set_option linter.unusedVariables false
/-! ### The register of the sum, in natural numbers -/
def crcN (r b : Nat) : Nat := if (r / 16384) ^^^ b = 1 then (2 * r % 32768) ^^^ 17817 else 2 * r % 32768
theorem bits_xor_i64 (a b : Nat) (ha : a < 2 ^ 62) (hb : b < 2 ^ 62) : bits .xor .i64 (a : Int) (b : Int) = ((a ^^^ b : Nat) : Int) := by
  have hp : (2 : Nat) ^ 62 ≤ 2 ^ IntKind.i64.bits := Nat.pow_le_pow_right (by decide) (by decide)
  have ha' : a % 2 ^ IntKind.i64.bits = a := Nat.mod_eq_of_lt (Nat.lt_of_lt_of_le ha hp)
  have hb' : b % 2 ^ IntKind.i64.bits = b := Nat.mod_eq_of_lt (Nat.lt_of_lt_of_le hb hp)
  simp only [bits, BitVec.ofInt_natCast, BitVec.toNat_xor, BitVec.toNat_ofNat, ha', hb']
  have h := Nat.xor_lt_two_pow ha hb
  rw [IntKind.wrap_i64]
  omega
theorem bits_and_i64 (a b : Nat) (ha : a < 2 ^ 62) (hb : b < 2 ^ 62) : bits .and .i64 (a : Int) (b : Int) = ((a &&& b : Nat) : Int) :=
  (bits_nat .i64 62 (by decide) (fun n h0 h1 => by rw [IntKind.wrap_i64]; omega) a b ha hb).1
theorem crcI_nat (r b : Nat) (hr : r < 32768) (hb : b ≤ 1) : crcI r b = crcN r b := by
  have h1 : ((r : Int) / 16384) = ((r / 16384 : Nat) : Int) := by omega
  have h2 : bits .and .i64 ((r : Int) / 16384) 1 = ((r / 16384 : Nat) : Int) := by
    rw [h1]
    have := bits_and_i64 (r / 16384) 1 (by omega) (by decide)
    rw [show ((1 : Nat) : Int) = 1 from rfl] at this
    rw [this, Nat.and_one_is_mod]
    omega
  have h3 : bits .and .i64 (wrap64 ((r : Int) * 2)) 32767 = ((2 * r % 32768 : Nat) : Int) := by
    have hw : wrap64 ((r : Int) * 2) = ((2 * r : Nat) : Int) := by unfold wrap64; omega
    rw [hw]
    have := bits_and_i64 (2 * r) 32767 (by omega) (by decide)
    rw [show ((32767 : Nat) : Int) = 32767 from rfl] at this
    rw [this, show (32767 : Nat) = 2 ^ 15 - 1 from rfl, Nat.and_two_pow_sub_one_eq_mod]
  have h4 : bits .xor .i64 ((r / 16384 : Nat) : Int) (b : Int) = ((r / 16384 ^^^ b : Nat) : Int) := bits_xor_i64 _ _ (by omega) (by omega)
  have h5 : bits .xor .i64 ((2 * r % 32768 : Nat) : Int) 17817 = ((2 * r % 32768 ^^^ 17817 : Nat) : Int) := bits_xor_i64 _ 17817 (by omega) (by decide)
  unfold crcI crcN
  rw [h2, h3, h4, h5]
  by_cases c : r / 16384 ^^^ b = 1
  · rw [if_pos c, if_pos (by rw [c]; rfl)]
  · rw [if_neg c, if_neg (by omega)]
theorem crcN_lt (r b : Nat) : crcN r b < 32768 := by
  unfold crcN
  split
  · exact Nat.xor_lt_two_pow (n := 15) (by omega) (by decide)
  · omega
/-- A letter as a bit. -/
def bitN (c : Int) : Nat := if c = 49 then 1 else 0
def bitB (c : Int) : Bool := decide (c = 49)
/-- The sum of a list of letters. -/
def crcL (l : List Int) : Nat := l.foldl (fun r c => crcN r (bitN c)) 0
theorem crcL_snoc (l : List Int) (c : Int) : crcL (l ++ [c]) = crcN (crcL l) (bitN c) := by
  unfold crcL; rw [List.foldl_append]; rfl
/-- Induction from behind. -/
theorem snoc_ind {α : Type} {p : List α → Prop} (h0 : p []) (h1 : ∀ l c, p l → p (l ++ [c])) (l : List α) : p l := by
  have key : ∀ m : List α, p m.reverse := by
    intro m
    induction m with
    | nil => exact h0
    | cons a m ih => rw [List.reverse_cons]; exact h1 _ _ ih
  have := key l.reverse
  rwa [List.reverse_reverse] at this
theorem crcL_lt (l : List Int) : crcL l < 32768 := by
  induction l using snoc_ind with
  | h0 => decide
  | h1 l c _ => rw [crcL_snoc]; exact crcN_lt _ _
theorem crcI_list (l : List Int) (hl : ∀ c ∈ l, c = 48 ∨ c = 49) : l.foldl (fun r c => crcI r (c - 48)) 0 = (crcL l : Int) := by
  induction l using snoc_ind with
  | h0 => rfl
  | h1 l c ih =>
    rw [List.foldl_append, ih (fun x hx => hl x (List.mem_append_left _ hx)), crcL_snoc, List.foldl_cons, List.foldl_nil]
    rcases hl c (by simp) with rfl | rfl
    · exact crcI_nat _ 0 (crcL_lt l) (by decide)
    · exact crcI_nat _ 1 (crcL_lt l) (by decide)
/-- What one bit does to the register, place by place. -/
theorem crcN_testBit (r b : Nat) (hr : r < 32768) (hb : b ≤ 1) (j : Nat) (hj : j < 15) :
    (crcN r b).testBit j = (((decide (0 < j)) && r.testBit (j - 1)) ^^ ((r.testBit 14 ^^ decide (b = 1)) && Nat.testBit 17817 j)) := by
  have h14 : r.testBit 14 = decide (r / 16384 = 1) := by
    rw [Nat.testBit_eq_decide_div_mod_eq]
    congr 1
    have : r / 2 ^ 14 % 2 = r / 16384 := by omega
    rw [this]
  have hy : (2 * r % 32768).testBit j = (decide (0 < j) && r.testBit (j - 1)) := by
    rw [show (32768 : Nat) = 2 ^ 15 from rfl, Nat.testBit_mod_two_pow, show 2 * r = r <<< 1 by omega, Nat.testBit_shiftLeft]
    simp [hj]
    rfl
  have hx : (r / 16384 ^^^ b = 1) ↔ (r.testBit 14 ^^ decide (b = 1)) = true := by
    rw [h14]
    have h0 : r / 16384 = 0 ∨ r / 16384 = 1 := by omega
    have h1 : b = 0 ∨ b = 1 := by omega
    rcases h0 with h0 | h0 <;> rcases h1 with h1 | h1 <;> rw [h0, h1] <;> decide
  unfold crcN
  by_cases c : r / 16384 ^^^ b = 1
  · rw [if_pos c, Nat.testBit_xor, hy, hx.1 c, Bool.true_and]
  · rw [if_neg c, hy]
    have : (r.testBit 14 ^^ decide (b = 1)) = false := by
      cases h : (r.testBit 14 ^^ decide (b = 1)) with
      | false => rfl
      | true => exact absurd (hx.2 h) c
    rw [this]; simp
end Go.Proofs.Ytdoclpgciadjaaa.P

namespace Go.Proofs.Ytdoclpgciadjaaa.P
open Go Go.RowKit Go.Proofs.YtdoclpgciadjaaaW.PrintWords
set_option linter.unusedVariables false
/-! ### Texts out of letters -/
theorem text_ext {a b : ByteArray} (h : a.data.toList = b.data.toList) : a = b := by
  cases a; cases b
  exact congrArg ByteArray.mk (Array.toList_inj.1 h)
theorem str_append (a b : List Int) : strOfNums (a ++ b) = strOfNums a ++ strOfNums b := by
  apply text_ext
  rw [Joins.data_append, strOfNums_data, strOfNums_data, strOfNums_data, List.map_append]
theorem str_extract_left (a b : List Int) : (strOfNums (a ++ b)).extract 0 a.length = strOfNums a := by
  apply text_ext
  rw [Lib.extract_data, strOfNums_data, strOfNums_data, List.drop_zero, List.map_append, Nat.sub_zero]
  exact List.take_left' (by simp)
theorem str_extract_right (a b : List Int) : (strOfNums (a ++ b)).extract a.length (strOfNums (a ++ b)).size = strOfNums b := by
  apply text_ext
  rw [Lib.extract_data, strOfNums_data, strOfNums_data, List.map_append, List.drop_left' (by simp), strOfNums_size, List.length_append, List.take_of_length_le (by simp)]
theorem str_extract (l : List Int) (a b : Nat) (h : a ≤ b) : (strOfNums l).extract a b = strOfNums ((l.drop a).take (b - a)) := by
  apply text_ext
  rw [Lib.extract_data, strOfNums_data, strOfNums_data, List.map_take, List.map_drop]
theorem bytes_str (l : List Int) (h : ∀ x ∈ l, 0 ≤ x ∧ x < 256) : bytesOf (strOfNums l) = l := by
  unfold bytesOf
  rw [strOfNums_data, List.map_map]
  conv => rhs; rw [← List.map_id l]
  refine List.map_congr_left fun x hx => ?_
  have := h x hx
  simp only [Function.comp, id]
  rw [UInt8.toNat_ofNat_of_lt' (show x.toNat < UInt8.size by simp [UInt8.size]; omega)]
  omega
theorem numL_snoc (u n : Nat) : numL u (n + 1) = numL (u / 2) n ++ [48 + ((u % 2 : Nat) : Int)] := by
  induction n with
  | zero => simp [numL]
  | succ n ih =>
    rw [numL, ih, numL, List.cons_append]
    congr 3
    rw [Nat.div_div_eq_div_mul, Nat.pow_succ, Nat.mul_comm]
theorem numL_add (u a b : Nat) : numL u (a + b) = numL (u / 2 ^ b) a ++ numL u b := by
  induction a with
  | zero => rw [Nat.zero_add]; rfl
  | succ a ih =>
    rw [show a + 1 + b = (a + b) + 1 by omega, numL, ih, numL, List.cons_append, Nat.div_div_eq_div_mul, ← Nat.pow_add, Nat.add_comm b a]
theorem numL_bits (u n : Nat) : ∀ x ∈ numL u n, x = 48 ∨ x = 49 := by
  induction n with
  | zero => intro x hx; cases hx
  | succ n ih =>
    intro x hx
    rw [numL] at hx
    rcases List.mem_cons.1 hx with rfl | hx
    · have : u / 2 ^ n % 2 < 2 := Nat.mod_lt _ (by decide)
      omega
    · exact ih x hx
def Bits (l : List Int) : Prop := ∀ x ∈ l, x = 48 ∨ x = 49
theorem Bits.range {l : List Int} (h : Bits l) : ∀ x ∈ l, 0 ≤ x ∧ x < 256 := fun x hx => by rcases h x hx with rfl | rfl <;> omega
theorem Bits.append {a b : List Int} (h : Bits a) (k : Bits b) : Bits (a ++ b) := fun x hx => (List.mem_append.1 hx).elim (h x) (k x)
theorem isBits_str {l : List Int} (h : Bits l) : isBits (strOfNums l) = true := by
  unfold isBits
  rw [strOfNums_data, List.all_map, List.all_eq_true]
  intro x hx
  rcases h x hx with rfl | rfl <;> rfl
theorem crcOf_str {l : List Int} (h : Bits l) : crcOf (strOfNums l) = (crcL l : Int) := by
  unfold crcOf
  rw [bytes_str l h.range]
  exact crcI_list l h
theorem flagL_bits (b : Bool) : Bits (flagL b) := by cases b <;> intro x hx <;> simp [flagL, b2] at hx <;> omega
theorem dataL_bits (l : List Int) : Bits (dataL l) := by
  intro x hx
  obtain ⟨y, _, hy⟩ := List.mem_flatMap.1 hx
  exact numL_bits _ _ x hy
theorem bodyL_bits (ext : Bool) (id : Int) (rtr : Bool) (dlc : Int) (l : List Int) : Bits (bodyL ext id rtr dlc l) := by
  unfold bodyL headL
  refine ((?_ : Bits _).append (numL_bits _ _)).append (dataL_bits l)
  cases ext
  · exact (((Bits.append (numL_bits _ _) (numL_bits _ _)).append (flagL_bits rtr)).append (numL_bits _ _))
  · exact ((((Bits.append (Bits.append (numL_bits _ _) (numL_bits _ _)) (numL_bits _ _)).append (numL_bits _ _)).append (flagL_bits rtr)).append (numL_bits _ _))
theorem bodyL_length (ext : Bool) (id : Int) (rtr : Bool) (dlc : Int) (l : List Int) (h : l.length ≤ 8) : (bodyL ext id rtr dlc l).length ≤ 103 := by
  unfold bodyL
  rw [List.length_append, List.length_append, numL_length, dataL_length]
  have := headL_length ext id rtr
  omega
/-- The plain bits of a frame, its sum behind. -/
def plainL (ext : Bool) (id : Int) (rtr : Bool) (dlc : Int) (l : List Int) : List Int := bodyL ext id rtr dlc l ++ numL (crcL (bodyL ext id rtr dlc l)) 15
theorem plainL_bits (ext : Bool) (id : Int) (rtr : Bool) (dlc : Int) (l : List Int) : Bits (plainL ext id rtr dlc l) := (bodyL_bits ext id rtr dlc l).append (numL_bits _ _)
theorem plainL_length (ext : Bool) (id : Int) (rtr : Bool) (dlc : Int) (l : List Int) (h : l.length ≤ 8) : (plainL ext id rtr dlc l).length ≤ 118 := by
  unfold plainL
  rw [List.length_append, numL_length]
  have := bodyL_length ext id rtr dlc l h
  omega
def onesL : List Int := [49, 49, 49, 49, 49, 49, 49, 49, 49, 49]
end Go.Proofs.Ytdoclpgciadjaaa.P

namespace Go.Proofs.Ytdoclpgciadjaaa.P
open Go Go.RowKit Go.Proofs.YtdoclpgciadjaaaW.PrintWords
set_option linter.unusedVariables false
theorem specValid_ev (e : Bool) (i : Int) (r : Bool) (d : Int) (l : List Int) : Ev (fun k => spec_ValidFrame.f k e i r d l) (validF e i r d l.length) := by
  have hd : ∀ a b c, spec_l1dataLen.f a b r c l = some (dataB r c) := by
    intro a b c
    unfold spec_l1dataLen.f dataB
    cases r
    · rw [if_neg (show ¬ (false = true) by decide), if_neg (show ¬ (false = true) by decide)]
      by_cases h : c > 8
      · rw [if_pos h, if_pos (show 8 < c from h)]
      · rw [if_neg h, if_neg (show ¬ 8 < c from h)]
    · rfl
  have h1 : ∀ b, Ev (fun k => spec_ValidFrame.j1 k b e i r d l) (!b && (decide (0 ≤ d) && (decide (d ≤ 15) && ((l.length : Int) == dataB r d)))) := by
    intro b
    refine Ev.step (f := fun _ => some (!b && (decide (0 ≤ d) && (decide (d ≤ 15) && ((l.length : Int) == dataB r d))))) (fun k => ?_) (Ev.now _)
    simp only [spec_ValidFrame.j1]
    cases b
    · rw [if_neg (by decide)]
      by_cases c1 : d < 0
      · rw [if_pos c1, decide_eq_false (by omega)]; rfl
      · rw [if_neg c1, decide_eq_true (show 0 ≤ d by omega)]
        by_cases c2 : d > 15
        · rw [if_pos c2, decide_eq_false (by omega)]; rfl
        · rw [if_neg c2, decide_eq_true (show d ≤ 15 by omega), hd, Option.bind_some]; simp
    · rfl
  have h0 : ∀ b, Ev (fun k => spec_ValidFrame.j0 k b e i r d l) (!b && ((e || decide (i < 2048)) && (decide (0 ≤ d) && (decide (d ≤ 15) && ((l.length : Int) == dataB r d))))) := by
    intro b
    cases b
    · cases e
      · refine Ev.step (fun k => ?_) (g := fun k => spec_ValidFrame.j0 k false false i r d l) (f := fun k => spec_ValidFrame.j1 k (decide (i ≥ 2048)) false i r d l) ?_
        · simp only [spec_ValidFrame.j0]
          rw [if_neg (by decide), if_neg (by decide)]
        · have := h1 (decide (i ≥ 2048))
          have e1 : (!decide (i ≥ 2048)) = decide (i < 2048) := by
            by_cases c : i < 2048
            · rw [decide_eq_true c, decide_eq_false (by omega)]; rfl
            · rw [decide_eq_false c, decide_eq_true (by omega)]; rfl
          rw [e1] at this
          exact this
      · refine Ev.step (fun k => ?_) (g := fun k => spec_ValidFrame.j0 k false true i r d l) (f := fun k => spec_ValidFrame.j1 k false true i r d l) (h1 false)
        simp only [spec_ValidFrame.j0]
        rw [if_neg (by decide), if_pos trivial]
    · refine Ev.step (f := fun _ => some false) (fun k => ?_) (Ev.now _)
      simp only [spec_ValidFrame.j0]
      rfl
  cases e
  · refine Ev.congr (f := fun k => spec_ValidFrame.j0 k false false i r d l) (fun k => ?_) (h0 false)
    unfold spec_ValidFrame.f
    rw [if_neg (by decide)]
  · refine Ev.congr (f := fun k => spec_ValidFrame.j0 k (decide (i ≥ 536870912)) true i r d l) (fun k => ?_) ?_
    · unfold spec_ValidFrame.f
      rw [if_pos rfl]
    · have := h0 (decide (i ≥ 536870912))
      have e1 : (!decide (i ≥ 536870912)) = decide (i < 536870912) := by
        by_cases c : i < 536870912
        · rw [decide_eq_true c, decide_eq_false (by omega)]; rfl
        · rw [decide_eq_false c, decide_eq_true (by omega)]; rfl
      rw [e1, Bool.true_or, Bool.true_and] at this
      exact this
end Go.Proofs.Ytdoclpgciadjaaa.P

namespace Go.Proofs.Ytdoclpgciadjaaa.P
open Go Go.RowKit Go.Proofs.YtdoclpgciadjaaaW.PrintWords
set_option linter.unusedVariables false
theorem l1num_ev (n : Nat) : ∀ (u : Nat), u < 4294967296 → n ≤ 64 → Ev (fun k => spec_l1num.f k (u : Int) (n : Int)) (strOfNums (numL u n)) := by
  induction n with
  | zero =>
    intro u hu hn
    refine Ev.step (f := fun _ => some (⟨#[]⟩ : ByteArray)) (fun k => ?_) (Ev.now _)
    simp only [spec_l1num.f]
    rw [if_pos (by omega)]
  | succ n ih =>
    intro u hu hn
    have ih' := ih (u / 2) (by omega) (by omega)
    have e1 : wrap64 (Int.tdiv (u : Int) 2) = ((u / 2 : Nat) : Int) := by
      rw [Int.tdiv_eq_ediv_of_nonneg (by omega)]; unfold wrap64; omega
    have e2 : wrap64 (((n + 1 : Nat) : Int) - 1) = (n : Int) := by unfold wrap64; omega
    have e3 : Int.tmod (u : Int) 2 = ((u % 2 : Nat) : Int) := by rw [Int.tmod_eq_emod_of_nonneg (by omega)]; omega
    have hsz : (strOfNums (numL (u / 2) n)).size + 1 ≤ 9223372036854775807 := by rw [strOfNums_size, numL_length]; omega
    by_cases c : u % 2 = 1
    · refine Ev.step (f := fun k => (spec_l1num.f k ((u / 2 : Nat) : Int) (n : Int)).bind fun t => if t.size + 1 ≤ 9223372036854775807 then some (t ++ (⟨#[49]⟩ : ByteArray)) else none) (fun k => ?_) (Ev.bind ih' (ev_pos hsz ?_))
      · simp only [spec_l1num.f]
        rw [if_neg (by omega), e3, if_pos (by omega), e1, e2]
      · rw [numL_snoc, c, str_append]; exact Ev.now _
    · refine Ev.step (f := fun k => (spec_l1num.f k ((u / 2 : Nat) : Int) (n : Int)).bind fun t => if t.size + 1 ≤ 9223372036854775807 then some (t ++ (⟨#[48]⟩ : ByteArray)) else none) (fun k => ?_) (Ev.bind ih' (ev_pos hsz ?_))
      · simp only [spec_l1num.f]
        rw [if_neg (by omega), e3, if_neg (by omega), e1, e2]
      · rw [numL_snoc, show u % 2 = 0 by omega, str_append]; exact Ev.now _
theorem l1flag_eq (b : Bool) : spec_l1flag.f b = some (strOfNums (flagL b)) := by cases b <;> rfl
end Go.Proofs.Ytdoclpgciadjaaa.P

namespace Go.Proofs.Ytdoclpgciadjaaa.P
open Go.RowKit Go.Proofs.YtdoclpgciadjaaaW.PrintWords Go.Proofs.YtdoclpgciadjaaaW.PrintLast Go.Proofs.YtdoclpgciadjaaaW.PrintMore
attribute [local go_sem] max2_int min2_int max_two min_two max_three min_three max_four min_four
set_option linter.unusedVariables false
set_option linter.unusedSimpArgs false

-- GIVEN rounds=0 making=1 import=Derived.Test.YtdoclpgciadjaaaText import=Derived.Test.YtdoclpgciadjaaaNum import=Derived.Deep.QuietTactic import=Derived.BigQuiet
/-! ### spec_Body: function 18 -/
def spec_Body.f (a0_0 : Bool) (a0_1 : Int) (a0_2 : Bool) (a0_3 : Int) (l0_4 : List Int) : Option (ByteArray) := if 0 ≤ a0_1 ∧ okBytes l0_4 = true then some (bodyV a0_0 a0_1 a0_2 a0_3 l0_4) else none
theorem spec_l1num.at (x y : Int) (u n : Nat) (w : World) (hx : x = (u : Int)) (hu : u < 4294967296) (hy : y = (n : Int)) (hn : n ≤ 64) :
    Calls Try.prog 79 #[.int .i64 x, .int .i64 y] w fun e w' => e = .returned (.string (strOfNums (numL u n))) ∧ ∃ m, w' = w.drewN m := by
  subst hx hy
  obtain ⟨k, hk⟩ := (l1num_ev n u hu hn).rounds
  exact (spec_l1num.calls k _ _ _ w hk).mono fun e w' ⟨he, hd⟩ => ⟨he, hd.out⟩
theorem spec_l1flag.at (b : Bool) (w : World) :
    Calls Try.prog 80 #[.bool b] w fun e w' => e = .returned (.string (strOfNums (flagL b))) ∧ ∃ m, w' = w.drewN m :=
  (spec_l1flag.calls b _ w (l1flag_eq b)).mono fun e w' ⟨he, hd⟩ => ⟨he, hd.out⟩
theorem spec_ValidFrame.at (ext : Bool) (id : Int) (rtr : Bool) (dlc : Int) (A : Option Addr) (c : Nat) (l : List Int) (w : World) (hr : Kd.C (Kd.int .u8) w A l.length l) (hc : l.length ≤ c) (b : Bool) (hv : validF ext id rtr dlc l.length = b) :
    Calls Try.prog 14 #[.agg #[.bool ext, .int .u32 id, .bool rtr, .int .i64 dlc, .slice A l.length c]] w fun e w' => e = .returned (.bool b) ∧ Below w.heap.size w w' := by
  subst hv
  obtain ⟨k, hk⟩ := (specValid_ev ext id rtr dlc l).rounds
  exact spec_ValidFrame.calls k ext id rtr dlc A c l _ w hr hc hk
theorem below_drewN {B : Nat} {a w : World} (h : Below B a w) (n : Nat) : Below B a (w.drewN n) := ⟨h.os, h.tape, h.output, h.size, h.block⟩
theorem str0 : (⟨#[48]⟩ : ByteArray) = strOfNums [48] := rfl
theorem str1 : (⟨#[49]⟩ : ByteArray) = strOfNums [49] := rfl
theorem str00 : (⟨#[48, 48]⟩ : ByteArray) = strOfNums [48, 48] := rfl
theorem text_base (id : Int) (rtr : Bool) : (⟨#[48]⟩ : ByteArray) ++ strOfNums (numL id.toNat 11) ++ strOfNums (flagL rtr) ++ ⟨#[48]⟩ ++ ⟨#[48]⟩ = strOfNums (headL false id rtr) := by
  rw [str0, ← str_append, ← str_append, ← str_append, ← str_append]
  congr 1
theorem text_ext29 (id : Int) (rtr : Bool) : (⟨#[48]⟩ : ByteArray) ++ strOfNums (numL (id.toNat / 262144) 11) ++ ⟨#[49]⟩ ++ ⟨#[49]⟩ ++ strOfNums (numL id.toNat 18) ++ strOfNums (flagL rtr) ++ ⟨#[48, 48]⟩ = strOfNums (headL true id rtr) := by
  rw [str0, str1, str00, ← str_append, ← str_append, ← str_append, ← str_append, ← str_append, ← str_append]
  congr 1
theorem num29 (u : Nat) : numL u 29 = numL (u / 262144) 11 ++ numL u 18 := numL_add u 11 18
theorem text_left (u : Nat) : (strOfNums (numL u 29)).extract 0 11 = strOfNums (numL (u / 262144) 11) := by
  rw [num29]
  have := str_extract_left (numL (u / 262144) 11) (numL u 18)
  rw [numL_length] at this
  exact this
theorem text_right (u : Nat) : (strOfNums (numL u 29)).extract 11 29 = strOfNums (numL u 18) := by
  have h := str_extract_right (numL (u / 262144) 11) (numL u 18)
  rw [← num29, numL_length, strOfNums_size, numL_length] at h
  exact h
set_option maxHeartbeats 4000000 in
theorem spec_Body.yes (ext : Bool) (id : Int) (rtr : Bool) (dlc : Int) (A : Option Addr) (c : Nat) (l : List Int) (w : World) (hr : Kd.C (Kd.int .u8) w A l.length l) (hc : l.length ≤ c) (h0 : 0 ≤ id) (hb : okBytes l = true) (hv : validF ext id rtr dlc l.length = true) :
    Calls Try.prog 18 #[.agg #[.bool ext, .int .u32 id, .bool rtr, .int .i64 dlc, .slice A l.length c]] w fun e w' => e = .returned (.string (strOfNums (bodyL ext id rtr dlc l))) ∧ Below w.heap.size w w' := by
  obtain ⟨hid, hd0, hd1, -, hn8⟩ := valid_parts hv
  have HV := Lib.hid hv
  have HR := Lib.hid hr
  have HC := Lib.hid hc
  have HOB := Lib.hid hb
  have hid2 : id < 536870912 := by unfold vtop at hid; split at hid <;> omega
  have HID : Hid (ext = false → id < 2048) := Lib.hid (fun e => by rw [e] at hid; exact hid)
  have HU : Hid (id = (id.toNat : Int)) := Lib.hid (by omega)
  have HD : Hid (dlc = (dlc.toNat : Int)) := Lib.hid (by omega)
  have HL : Hid (l.length ≤ 8) := Lib.hid hn8
  have HM8 : Hid (l.length ≤ 9223372036854775807) := Lib.hid hr.2.1
  clear hv hr hc hb hid hn8
  cases ext
  · go_enter Try.func18, Try.ntmps18
    go_wp2_with (fail)
    (refine (spec_ValidFrame.at false id rtr dlc A c l _ (Kd.C_below HR.out ((Below.refl _ _).alloc (Nat.le_refl _) _)) HC.out true HV.out).mono ?_; rintro e w1 ⟨rfl, hb1⟩; have HB1 : Hid (Below w.heap.size w w1) := Lib.hid (Below.trans ((Below.refl _ _).alloc (Nat.le_refl _) _) (hb1.mono (by simp))); have HBOX := Lib.hid (blk_below (blk_new w _) hb1); clear hb1; have hc0 := blk_cell HBOX.out 0; have hc1 := blk_cell HBOX.out 1; have hc2 := blk_cell HBOX.out 2; have hc3 := blk_cell HBOX.out 3; have hc4 := blk_cell HBOX.out 4; simp only [box5_0, box5_1, box5_2, box5_3, box5_4] at hc0 hc1 hc2 hc3 hc4)
    go_wp2_with (fail)
    have hw : IntKind.i64.wrap id = id := by rw [IntKind.wrap_i64]; omega
    have hs1 : (strOfNums (numL id.toNat 11)).size = 11 := by rw [strOfNums_size, numL_length]
    have hs2 : (strOfNums (flagL rtr)).size = 1 := by rw [strOfNums_size]; rfl
    go_quiet ((first | (go_at_call 79; exact Calls.quiet_of (spec_l1num.at _ 11 id.toNat 11 _ HU.out (by omega) rfl (by omega))) | (go_at_call 80; exact Calls.quiet_of (spec_l1flag.at _ _))))
    go_wp2_with (fail)
    rw [text_base]
    (refine (spec_l1num.at dlc 4 dlc.toNat 4 _ HD.out (by omega) rfl (by omega)).mono ?_; rintro e w2 ⟨rfl, m2, rfl⟩)
    have HS1 : (strOfNums (headL false id rtr)).size ≤ 35 := by rw [strOfNums_size]; exact headL_length _ _ _
    have HS2 : (strOfNums (numL dlc.toNat 4)).size = 4 := by rw [strOfNums_size, numL_length]
    go_wp2_with (fail)
    have HBL := below_drewN HB1.out
    have HBX := HBOX.out
    clear hc0 hc1 hc2 hc3 hc4 HBOX
    go_loopw [5, 3] (fun v5 v3 wr => ∃ (i : Nat), i ≤ l.length ∧ v5 = .int .i64 i ∧ v3 = .string (strOfNums (headL false id rtr ++ (numL dlc.toNat 4 ++ dataL (l.take i)))) ∧ Aside0 (Below w.heap.size w wr) ∧ Aside0 (wr.heap[w.heap.size]? = some (.cells #[.bool false, .int .u32 id, .bool rtr, .int .i64 dlc, .slice A l.length c] 25 (0, 0)))) (fun v5 _ _ => l.length - (intOf v5).toNat)
    case atStart => exact ⟨0, Nat.zero_le _, rfl, by rw [← str_append, List.take_zero]; simp [dataL], ⟨HBL _⟩, ⟨HBX⟩⟩
    case round =>
      obtain ⟨i, hi, rfl, rfl, HB, HBOX⟩ := hrel
      have hc0 := blk_cell HBOX.out 0; have hc1 := blk_cell HBOX.out 1; have hc2 := blk_cell HBOX.out 2; have hc3 := blk_cell HBOX.out 3; have hc4 := blk_cell HBOX.out 4; simp only [box5_0, box5_1, box5_2, box5_3, box5_4] at hc0 hc1 hc2 hc3 hc4
      have hsz : (strOfNums (headL false id rtr ++ (numL dlc.toNat 4 ++ dataL (l.take i)))).size ≤ 103 := by
        have h1 := headL_length false id rtr; have h2 := dataL_length (l.take i); have h3 := HL.out; rw [strOfNums_size]; simp [numL_length] at h1 h2 ⊢; omega
      by_cases hlt : i < l.length
      · obtain ⟨ad, ea, hcell⟩ := Kd.at_int (Kd.C_below HR.out HB.out) (i : Int) (by omega) (by omega)
        subst ea
        have HBY := Lib.hid (okBytes_at HOB.out i hlt)
        have HX : Hid (rd l (i : Int) = ((rd l (i : Int)).toNat : Int)) := Lib.hid (by have := HBY.out; omega)
        rw [HX.out, Int.toNat_natCast] at hcell
        generalize hxx : (rd l (i : Int)).toNat = x at hcell
        have HXX : Hid (x = (rd l (i : Int)).toNat ∧ x < 256) := Lib.hid ⟨hxx.symm, by have := HBY.out; omega⟩
        have hx256 : x < 256 := HXX.out.2
        have hm8 := HM8.out
        clear hxx
        go_wp2_with (fail)
        (refine (spec_l1num.at (x : Int) 8 x 8 _ rfl (by omega) rfl (by omega)).mono ?_; rintro e w3 ⟨rfl, m3, rfl⟩)
        have HS3 : (strOfNums (numL x 8)).size = 8 := by rw [strOfNums_size, numL_length]
        go_wp2_with (fail)
        go_roundw
        case rel => exact ⟨i + 1, hlt, by go_num, by rw [← str_append, take_next l i hlt, dataL_snoc, HXX.out.1]; simp only [List.append_assoc], ⟨below_drewN HB.out _⟩, ⟨HBOX.out⟩⟩
        case measure => simp [intOf]; omega
      · obtain rfl : i = l.length := by omega
        go_wp2_with (fail)
        go_ret
        exact ⟨by rw [List.take_length]; unfold bodyL; rw [List.append_assoc]; rfl, HB.out⟩
  · go_enter Try.func18, Try.ntmps18
    go_wp2_with (fail)
    (refine (spec_ValidFrame.at true id rtr dlc A c l _ (Kd.C_below HR.out ((Below.refl _ _).alloc (Nat.le_refl _) _)) HC.out true HV.out).mono ?_; rintro e w1 ⟨rfl, hb1⟩; have HB1 : Hid (Below w.heap.size w w1) := Lib.hid (Below.trans ((Below.refl _ _).alloc (Nat.le_refl _) _) (hb1.mono (by simp))); have HBOX := Lib.hid (blk_below (blk_new w _) hb1); clear hb1; have hc0 := blk_cell HBOX.out 0; have hc1 := blk_cell HBOX.out 1; have hc2 := blk_cell HBOX.out 2; have hc3 := blk_cell HBOX.out 3; have hc4 := blk_cell HBOX.out 4; simp only [box5_0, box5_1, box5_2, box5_3, box5_4] at hc0 hc1 hc2 hc3 hc4)
    go_wp2_with (fail)
    have hw : IntKind.i64.wrap id = id := by rw [IntKind.wrap_i64]; omega
    (refine (spec_l1num.at id 29 id.toNat 29 _ HU.out (by omega) rfl (by omega)).mono ?_; rintro e wn ⟨rfl, mn, rfl⟩)
    have hs2 : (strOfNums (flagL rtr)).size = 1 := by rw [strOfNums_size]; rfl
    have hs3 : (strOfNums (numL id.toNat 29)).size = 29 := by rw [strOfNums_size, numL_length]
    have hs4 : (strOfNums (numL (id.toNat / 262144) 11)).size = 11 := by rw [strOfNums_size, numL_length]
    have hs5 : (strOfNums (numL id.toNat 18)).size = 18 := by rw [strOfNums_size, numL_length]
    have hx1 : (strOfNums (numL id.toNat 29)).extract 0 11 = strOfNums (numL (id.toNat / 262144) 11) := text_left id.toNat
    have hx2 : (strOfNums (numL id.toNat 29)).extract 11 29 = strOfNums (numL id.toNat 18) := text_right id.toNat
    go_wp2_with (fail)
    obtain ⟨W, hW⟩ : ∃ W, W = w1.drewN mn := ⟨_, rfl⟩
    rw [← hW]
    (have HBX : Hid (W.heap[w.heap.size]? = some (.cells #[.bool true, .int .u32 id, .bool rtr, .int .i64 dlc, .slice A l.length c] 25 (0, 0))) := Lib.hid (by rw [hW]; exact HBOX.out); have HBW : Hid (Below w.heap.size w W) := Lib.hid (by rw [hW]; exact below_drewN HB1.out _); clear hc0 hc1 hc2 hc3 hc4 hW HBOX HB1; have HBOX := HBX; have HB1 := HBW; clear HBX HBW; have hc0 := blk_cell HBOX.out 0; have hc1 := blk_cell HBOX.out 1; have hc2 := blk_cell HBOX.out 2; have hc3 := blk_cell HBOX.out 3; have hc4 := blk_cell HBOX.out 4; simp only [box5_0, box5_1, box5_2, box5_3, box5_4] at hc0 hc1 hc2 hc3 hc4)
    go_quiet ((first | (go_at_call 80; exact Calls.quiet_of (spec_l1flag.at _ _))))
    go_wp2_with (fail)
    rw [text_ext29]
    (refine (spec_l1num.at dlc 4 dlc.toNat 4 _ HD.out (by omega) rfl (by omega)).mono ?_; rintro e w2 ⟨rfl, m2, rfl⟩)
    have HS1 : (strOfNums (headL true id rtr)).size ≤ 35 := by rw [strOfNums_size]; exact headL_length _ _ _
    have HS2 : (strOfNums (numL dlc.toNat 4)).size = 4 := by rw [strOfNums_size, numL_length]
    go_wp2_with (fail)
    have HBL := below_drewN HB1.out
    have HBX := HBOX.out
    clear hc0 hc1 hc2 hc3 hc4 HBOX
    go_loopw [5, 3] (fun v5 v3 wr => ∃ (i : Nat), i ≤ l.length ∧ v5 = .int .i64 i ∧ v3 = .string (strOfNums (headL true id rtr ++ (numL dlc.toNat 4 ++ dataL (l.take i)))) ∧ Aside0 (Below w.heap.size w wr) ∧ Aside0 (wr.heap[w.heap.size]? = some (.cells #[.bool true, .int .u32 id, .bool rtr, .int .i64 dlc, .slice A l.length c] 25 (0, 0)))) (fun v5 _ _ => l.length - (intOf v5).toNat)
    case atStart => exact ⟨0, Nat.zero_le _, rfl, by rw [← str_append, List.take_zero]; simp [dataL], ⟨HBL _⟩, ⟨HBX⟩⟩
    case round =>
      obtain ⟨i, hi, rfl, rfl, HB, HBOX⟩ := hrel
      have hc0 := blk_cell HBOX.out 0; have hc1 := blk_cell HBOX.out 1; have hc2 := blk_cell HBOX.out 2; have hc3 := blk_cell HBOX.out 3; have hc4 := blk_cell HBOX.out 4; simp only [box5_0, box5_1, box5_2, box5_3, box5_4] at hc0 hc1 hc2 hc3 hc4
      have hsz : (strOfNums (headL true id rtr ++ (numL dlc.toNat 4 ++ dataL (l.take i)))).size ≤ 103 := by
        have h1 := headL_length true id rtr; have h2 := dataL_length (l.take i); have h3 := HL.out; rw [strOfNums_size]; simp [numL_length] at h1 h2 ⊢; omega
      by_cases hlt : i < l.length
      · obtain ⟨ad, ea, hcell⟩ := Kd.at_int (Kd.C_below HR.out HB.out) (i : Int) (by omega) (by omega)
        subst ea
        have HBY := Lib.hid (okBytes_at HOB.out i hlt)
        have HX : Hid (rd l (i : Int) = ((rd l (i : Int)).toNat : Int)) := Lib.hid (by have := HBY.out; omega)
        rw [HX.out, Int.toNat_natCast] at hcell
        generalize hxx : (rd l (i : Int)).toNat = x at hcell
        have HXX : Hid (x = (rd l (i : Int)).toNat ∧ x < 256) := Lib.hid ⟨hxx.symm, by have := HBY.out; omega⟩
        have hx256 : x < 256 := HXX.out.2
        have hm8 := HM8.out
        clear hxx
        go_wp2_with (fail)
        (refine (spec_l1num.at (x : Int) 8 x 8 _ rfl (by omega) rfl (by omega)).mono ?_; rintro e w3 ⟨rfl, m3, rfl⟩)
        have HS3 : (strOfNums (numL x 8)).size = 8 := by rw [strOfNums_size, numL_length]
        go_wp2_with (fail)
        go_roundw
        case rel => exact ⟨i + 1, hlt, by go_num, by rw [← str_append, take_next l i hlt, dataL_snoc, HXX.out.1]; simp only [List.append_assoc], ⟨below_drewN HB.out _⟩, ⟨HBOX.out⟩⟩
        case measure => simp [intOf]; omega
      · obtain rfl : i = l.length := by omega
        go_wp2_with (fail)
        go_ret
        exact ⟨by rw [List.take_length]; unfold bodyL; rw [List.append_assoc]; rfl, HB.out⟩
theorem spec_Body.calls (a0_0 : Bool) (a0_1 : Int) (a0_2 : Bool) (a0_3 : Int) (A0_4 : Option Addr) (c0_4 : Nat) (l0_4 : List Int) (r : ByteArray) (w : World) (hr0_4 : Kd.C (Kd.int .u8) w A0_4 l0_4.length l0_4) (hc0_4 : l0_4.length ≤ c0_4) (h : spec_Body.f a0_0 a0_1 a0_2 a0_3 l0_4 = some r) :
    Calls Try.prog 18 #[.agg #[.bool a0_0, .int .u32 a0_1, .bool a0_2, .int .i64 a0_3, .slice A0_4 l0_4.length c0_4]] w fun e w' => e = .returned (.string r) ∧ Below w.heap.size w w' := by
  unfold spec_Body.f at h
  by_cases c : 0 ≤ a0_1 ∧ okBytes l0_4 = true
  · rw [if_pos c] at h
    have hr := (Option.some.inj h).symm
    unfold bodyV at hr
    cases hv : validF a0_0 a0_1 a0_2 a0_3 l0_4.length with
    | true =>
      rw [hv, if_pos rfl] at hr
      subst hr
      exact spec_Body.yes a0_0 a0_1 a0_2 a0_3 A0_4 c0_4 l0_4 w hr0_4 hc0_4 c.1 c.2 hv
    | false =>
      rw [hv] at hr
      subst hr
      have HV := Lib.hid hv
      have HR := Lib.hid hr0_4
      have HC := Lib.hid hc0_4
      have HM8 : Hid (l0_4.length ≤ 9223372036854775807) := Lib.hid hr0_4.2.1
      clear hr0_4 hc0_4 hv c h
      go_enter Try.func18, Try.ntmps18
      go_wp2_with (fail)
      (refine (spec_ValidFrame.at a0_0 a0_1 a0_2 a0_3 A0_4 c0_4 l0_4 _ (Kd.C_below HR.out ((Below.refl _ _).alloc (Nat.le_refl _) _)) HC.out false HV.out).mono ?_; rintro e w1 ⟨rfl, hb1⟩; have HB1 : Hid (Below w.heap.size w w1) := Lib.hid (Below.trans ((Below.refl _ _).alloc (Nat.le_refl _) _) (hb1.mono (by simp))); clear hb1)
      go_wp2_with (fail)
      go_ret
      exact ⟨rfl, HB1.out⟩
  · rw [if_neg c] at h
    cases h

end Go.Proofs.Ytdoclpgciadjaaa.P

namespace Go.Proofs.Ytdoclpgciadjaaa.P
open Go.RowKit Go.Proofs.YtdoclpgciadjaaaW.PrintWords Go.Proofs.YtdoclpgciadjaaaW.PrintLast Go.Proofs.YtdoclpgciadjaaaW.PrintMore
attribute [local go_sem] max2_int min2_int max_two min_two max_three min_three max_four min_four
set_option linter.unusedVariables false
set_option linter.unusedSimpArgs false

/-! ### spec_l1okBits: function 128 -/
def spec_l1okBits.l0 : Nat → ByteArray → Int → Option (Bool)
  | 0, _, _ => none
  | k + 1, x0, x5 => if x5 < (x0.size : Int) then (if 0 ≤ x5 then (if (bt x0 x5) = 48 then (spec_l1okBits.l0 k x0 (wrap64 (x5 + 1))) else (if (bt x0 x5) = 49 then (spec_l1okBits.l0 k x0 (wrap64 (x5 + 1))) else (some false))) else (none)) else (some true)
def spec_l1okBits.f (k : Nat) (a0 : ByteArray) (a1 : Int) : Option (Bool) := if (a0.size : Int) > a1 then (some false) else (spec_l1okBits.l0 k a0 0)
theorem spec_l1okBits.mono_l : ∀ k, (∀ y0 y1, LeO (spec_l1okBits.l0 k y0 y1) (spec_l1okBits.l0 (k + 1) y0 y1))
  | 0 => fun _ _ r h => by simp [spec_l1okBits.l0] at h
  | k + 1 => by
    have ih0 := spec_l1okBits.mono_l k
    · intro y0 y1
      unfold spec_l1okBits.l0
      repeat' first
      | (with_reducible exact ih0 _ _)
      | (with_reducible exact LeO.refl _)
      | (with_reducible exact LeO.none _)
      | (with_reducible refine LeO.ite ?_ ?_)
      | (with_reducible refine LeO.bind ?_ (fun _ => ?_))
      | exact ih0 _ _
      | exact LeO.none _
      | refine LeO.ite ?_ ?_
      | refine LeO.bind ?_ (fun _ => ?_)
theorem spec_l1okBits.mono : ∀ a0 a1 k, LeO (spec_l1okBits.f k a0 a1) (spec_l1okBits.f (k + 1) a0 a1) := by
  intro a0 a1 k
  have ih0 := spec_l1okBits.mono_l k
  unfold spec_l1okBits.f
  repeat' first
      | (with_reducible exact ih0 _ _)
      | (with_reducible exact LeO.refl _)
      | (with_reducible exact LeO.none _)
      | (with_reducible refine LeO.ite ?_ ?_)
      | (with_reducible refine LeO.bind ?_ (fun _ => ?_))
      | exact ih0 _ _
      | exact LeO.none _
      | refine LeO.ite ?_ ?_
      | refine LeO.bind ?_ (fun _ => ?_)
set_option maxHeartbeats 8000000 in
set_option maxRecDepth 100000 in
theorem spec_l1okBits.calls (k : Nat) (a0 : ByteArray) (a1 : Int) (r : Bool) (w : World) (h : spec_l1okBits.f k a0 a1 = some r) :
    Calls Try.prog 128 #[.string a0, .int .i64 a1] w fun e w' => e = .returned (.bool r) ∧ Drawn0 w w' := by
  have H : (if (a0.size : Int) > a1 then (some false) else (spec_l1okBits.l0 k a0 0)) = some r := h
  clear h
  by_cases c3 : (a0.size : Int) > a1
  · rw [if_pos c3] at H
    have c3b0 : decide (a1 < (a0.size : Int)) = true := decide_eq_true c3
    clear c3
    obtain rfl := Option.some.inj H
    go_enter Try.func128, Try.ntmps128
    go_wp2
    go_ret
    exact ⟨by first | rfl | (simp; done) | (simp [*]; done), by repeat (first | exact Drawn0.refl _ | apply Drawn0.step)⟩
  · rw [if_neg c3] at H
    have c3b0 : decide (a1 < (a0.size : Int)) = false := decide_eq_false c3
    clear c3
    have H' := Aside0.mk H
    clear H
    go_enter Try.func128, Try.ntmps128
    go_wp2
    go_loopg [5] k (fun kq v5 w' => ∃ (x5_1 : Int), v5 = .int .i64 x5_1 ∧ Aside0 (spec_l1okBits.l0 kq a0 x5_1 = some r) ∧ Aside0 (kq ≤ k) ∧ Drawn0 w w')
    case atStart => exact ⟨(0), (by first | rfl | (simp; done) | (simp [*]; done)), H', ⟨Nat.le_refl _⟩, by repeat (first | exact Drawn0.refl _ | apply Drawn0.step)⟩
    case round =>
      clear H'
      try clear c1
      try clear p2
      try clear c3
      try clear c3b0
      obtain ⟨x5_1, rfl, HA, HK1, ⟨m1, rfl⟩⟩ := hrel
      cases gk with
      | zero => exact absurd HA.out (by simp [spec_l1okBits.l0])
      | succ k1 =>
        have H := HA.out
        clear HA
        simp only [spec_l1okBits.l0] at H
        by_cases c4 : x5_1 < (a0.size : Int)
        · rw [if_pos c4] at H
          have c4b0 : decide (x5_1 < (a0.size : Int)) = true := decide_eq_true c4
          clear c4
          by_cases c5 : 0 ≤ x5_1
          · rw [if_pos c5] at H
            have c5b0 : decide (0 ≤ x5_1) = true := decide_eq_true c5
            clear c5
            by_cases c7 : (bt a0 x5_1) = 48
            · rw [if_pos c7] at H
              have c7b0 : ((bt a0 x5_1) == 48) = true := beq_iff_eq.mpr c7
              have c7b1 : ((bt a0 x5_1) != 48) = false := bne_eq_false_iff_eq.mpr c7
              clear c7
              have H' := Aside0.mk H
              clear H
              have p6 : 0 ≤ (x5_1 : Int) := of_decide_eq_true (by first | (with_reducible assumption) | assumption)
              have q6 : x5_1 < (a0.size : Int) := of_decide_eq_true (by first | (with_reducible assumption) | assumption)
              have hx6 := bt_at a0 x5_1
              replace p6 := eq_true p6
              replace q6 := eq_true q6
              go_wp2
              go_roundg k1
              case measure => have := HK1.out; omega
              case rel => exact ⟨(wrap64 (x5_1 + 1)), (by first | rfl | (simp; done) | (simp [*]; done)), H', ⟨by have := HK1.out; omega⟩, by repeat (first | exact Drawn0.refl _ | apply Drawn0.step)⟩
            · rw [if_neg c7] at H
              have c7b0 : ((bt a0 x5_1) == 48) = false := beq_eq_false_iff_ne.mpr c7
              have c7b1 : ((bt a0 x5_1) != 48) = true := bne_iff_ne.mpr c7
              by_cases c9 : (bt a0 x5_1) = 49
              · rw [if_pos c9] at H
                have c9b0 : ((bt a0 x5_1) == 49) = true := beq_iff_eq.mpr c9
                have c9b1 : ((bt a0 x5_1) != 49) = false := bne_eq_false_iff_eq.mpr c9
                clear c9
                have H' := Aside0.mk H
                clear H
                have p6 : 0 ≤ (x5_1 : Int) := of_decide_eq_true (by first | (with_reducible assumption) | assumption)
                have q6 : x5_1 < (a0.size : Int) := of_decide_eq_true (by first | (with_reducible assumption) | assumption)
                have hx6 := bt_at a0 x5_1
                replace p6 := eq_true p6
                replace q6 := eq_true q6
                have p8 : 0 ≤ (x5_1 : Int) := of_decide_eq_true (by first | (with_reducible assumption) | assumption)
                have q8 : x5_1 < (a0.size : Int) := of_decide_eq_true (by first | (with_reducible assumption) | assumption)
                have hx8 := bt_at a0 x5_1
                replace p8 := eq_true p8
                replace q8 := eq_true q8
                go_wp2
                go_roundg k1
                case measure => have := HK1.out; omega
                case rel => exact ⟨(wrap64 (x5_1 + 1)), (by first | rfl | (simp; done) | (simp [*]; done)), H', ⟨by have := HK1.out; omega⟩, by repeat (first | exact Drawn0.refl _ | apply Drawn0.step)⟩
              · rw [if_neg c9] at H
                have c9b0 : ((bt a0 x5_1) == 49) = false := beq_eq_false_iff_ne.mpr c9
                have c9b1 : ((bt a0 x5_1) != 49) = true := bne_iff_ne.mpr c9
                obtain rfl := Option.some.inj H
                have p6 : 0 ≤ (x5_1 : Int) := of_decide_eq_true (by first | (with_reducible assumption) | assumption)
                have q6 : x5_1 < (a0.size : Int) := of_decide_eq_true (by first | (with_reducible assumption) | assumption)
                have hx6 := bt_at a0 x5_1
                replace p6 := eq_true p6
                replace q6 := eq_true q6
                have p8 : 0 ≤ (x5_1 : Int) := of_decide_eq_true (by first | (with_reducible assumption) | assumption)
                have q8 : x5_1 < (a0.size : Int) := of_decide_eq_true (by first | (with_reducible assumption) | assumption)
                have hx8 := bt_at a0 x5_1
                replace p8 := eq_true p8
                replace q8 := eq_true q8
                go_wp2
                go_ret
                exact ⟨by first | rfl | (simp; done) | (simp [*]; done), by repeat (first | exact Drawn0.refl _ | apply Drawn0.step)⟩
          · rw [if_neg c5] at H
            exact absurd H (by simp)
        · rw [if_neg c4] at H
          have c4b0 : decide (x5_1 < (a0.size : Int)) = false := decide_eq_false c4
          clear c4
          obtain rfl := Option.some.inj H
          go_wp2
          go_ret
          exact ⟨by first | rfl | (simp; done) | (simp [*]; done), by repeat (first | exact Drawn0.refl _ | apply Drawn0.step)⟩

end Go.Proofs.Ytdoclpgciadjaaa.P

namespace Go.Proofs.Ytdoclpgciadjaaa.P
open Go.RowKit Go.Proofs.YtdoclpgciadjaaaW.PrintWords Go.Proofs.YtdoclpgciadjaaaW.PrintLast Go.Proofs.YtdoclpgciadjaaaW.PrintMore
attribute [local go_sem] max2_int min2_int max_two min_two max_three min_three max_four min_four
set_option linter.unusedVariables false
set_option linter.unusedSimpArgs false

/-! ### spec_l1due: function 139 -/
def spec_l1due.f (l0 : List Int) (a1 : Int) : Option (Bool) := if a1 < 5 then (some false) else (if 0 ≤ (wrap64 (a1 - 1)) then (if (wrap64 (a1 - 1)) < (l0.length : Int) then (if 0 ≤ (wrap64 (a1 - 2)) then (if (wrap64 (a1 - 2)) < (l0.length : Int) then (if (rd l0 (wrap64 (a1 - 1))) = (rd l0 (wrap64 (a1 - 2))) then (if 0 ≤ (wrap64 (a1 - 3)) then (if (wrap64 (a1 - 3)) < (l0.length : Int) then (if (rd l0 (wrap64 (a1 - 2))) = (rd l0 (wrap64 (a1 - 3))) then (if 0 ≤ (wrap64 (a1 - 4)) then (if (wrap64 (a1 - 4)) < (l0.length : Int) then (if (rd l0 (wrap64 (a1 - 3))) = (rd l0 (wrap64 (a1 - 4))) then (if 0 ≤ (wrap64 (a1 - 5)) then (if (wrap64 (a1 - 5)) < (l0.length : Int) then (some ((rd l0 (wrap64 (a1 - 4))) == (rd l0 (wrap64 (a1 - 5))))) else (none)) else (none)) else (some false)) else (none)) else (none)) else (some false)) else (none)) else (none)) else (some false)) else (none)) else (none)) else (none)) else (none))
set_option maxHeartbeats 8000000 in
set_option maxRecDepth 100000 in
theorem spec_l1due.calls (A0 : Option Addr) (c0 : Nat) (l0 : List Int) (a1 : Int) (r : Bool) (w : World) (hr0 : Kd.C (Kd.int .u8) w A0 l0.length l0) (hc0 : l0.length ≤ c0) (h : spec_l1due.f l0 a1 = some r) :
    Calls Try.prog 139 #[.slice A0 l0.length c0, .int .i64 a1] w fun e w' => e = .returned (.bool r) ∧ Drawn0 w w' := by
  have HR0 := Aside0.mk hr0
  have HC0 := Aside0.mk hc0
  clear hr0 hc0
  have H : (if a1 < 5 then (some false) else (if 0 ≤ (wrap64 (a1 - 1)) then (if (wrap64 (a1 - 1)) < (l0.length : Int) then (if 0 ≤ (wrap64 (a1 - 2)) then (if (wrap64 (a1 - 2)) < (l0.length : Int) then (if (rd l0 (wrap64 (a1 - 1))) = (rd l0 (wrap64 (a1 - 2))) then (if 0 ≤ (wrap64 (a1 - 3)) then (if (wrap64 (a1 - 3)) < (l0.length : Int) then (if (rd l0 (wrap64 (a1 - 2))) = (rd l0 (wrap64 (a1 - 3))) then (if 0 ≤ (wrap64 (a1 - 4)) then (if (wrap64 (a1 - 4)) < (l0.length : Int) then (if (rd l0 (wrap64 (a1 - 3))) = (rd l0 (wrap64 (a1 - 4))) then (if 0 ≤ (wrap64 (a1 - 5)) then (if (wrap64 (a1 - 5)) < (l0.length : Int) then (some ((rd l0 (wrap64 (a1 - 4))) == (rd l0 (wrap64 (a1 - 5))))) else (none)) else (none)) else (some false)) else (none)) else (none)) else (some false)) else (none)) else (none)) else (some false)) else (none)) else (none)) else (none)) else (none))) = some r := h
  clear h
  by_cases c3 : a1 < 5
  · rw [if_pos c3] at H
    have c3b0 : decide (a1 < 5) = true := decide_eq_true c3
    clear c3
    obtain rfl := Option.some.inj H
    go_enter Try.func139, Try.ntmps139
    go_wp2
    repeat (go_quiet (fail); try go_wp2)
    go_ret
    exact ⟨by first | rfl | (simp; done) | (simp [*]; done), by repeat (first | exact Drawn0.refl _ | apply Drawn0.step)⟩
  · rw [if_neg c3] at H
    have c3b0 : decide (a1 < 5) = false := decide_eq_false c3
    clear c3
    obtain ⟨ji4, hji4⟩ : ∃ j_ : Int, (wrap64 (a1 - 1)) = j_ := ⟨_, rfl⟩
    replace H : (if 0 ≤ (ji4) then (if (ji4) < (l0.length : Int) then (if 0 ≤ (wrap64 (a1 - 2)) then (if (wrap64 (a1 - 2)) < (l0.length : Int) then (if (rd l0 (ji4)) = (rd l0 (wrap64 (a1 - 2))) then (if 0 ≤ (wrap64 (a1 - 3)) then (if (wrap64 (a1 - 3)) < (l0.length : Int) then (if (rd l0 (wrap64 (a1 - 2))) = (rd l0 (wrap64 (a1 - 3))) then (if 0 ≤ (wrap64 (a1 - 4)) then (if (wrap64 (a1 - 4)) < (l0.length : Int) then (if (rd l0 (wrap64 (a1 - 3))) = (rd l0 (wrap64 (a1 - 4))) then (if 0 ≤ (wrap64 (a1 - 5)) then (if (wrap64 (a1 - 5)) < (l0.length : Int) then (some ((rd l0 (wrap64 (a1 - 4))) == (rd l0 (wrap64 (a1 - 5))))) else (none)) else (none)) else (some false)) else (none)) else (none)) else (some false)) else (none)) else (none)) else (some false)) else (none)) else (none)) else (none)) else (none)) = some r := by first | (rw [hji4] at H; exact H) | (simp only [hji4] at H ⊢; exact H)
    have hji4w : (IntKind.i64.wrap (a1 - 1)) = ji4 := (i64_w _).trans hji4
    by_cases c5 : 0 ≤ (ji4)
    · rw [if_pos c5] at H
      have c5b0 : decide (0 ≤ (ji4)) = true := decide_eq_true c5
      clear c5
      by_cases c6 : (ji4) < (l0.length : Int)
      · rw [if_pos c6] at H
        have c6b0 : decide ((ji4) < (l0.length : Int)) = true := decide_eq_true c6
        clear c6
        obtain ⟨ji7, hji7⟩ : ∃ j_ : Int, (wrap64 (a1 - 2)) = j_ := ⟨_, rfl⟩
        replace H : (if 0 ≤ (ji7) then (if (ji7) < (l0.length : Int) then (if (rd l0 (ji4)) = (rd l0 (ji7)) then (if 0 ≤ (wrap64 (a1 - 3)) then (if (wrap64 (a1 - 3)) < (l0.length : Int) then (if (rd l0 (ji7)) = (rd l0 (wrap64 (a1 - 3))) then (if 0 ≤ (wrap64 (a1 - 4)) then (if (wrap64 (a1 - 4)) < (l0.length : Int) then (if (rd l0 (wrap64 (a1 - 3))) = (rd l0 (wrap64 (a1 - 4))) then (if 0 ≤ (wrap64 (a1 - 5)) then (if (wrap64 (a1 - 5)) < (l0.length : Int) then (some ((rd l0 (wrap64 (a1 - 4))) == (rd l0 (wrap64 (a1 - 5))))) else (none)) else (none)) else (some false)) else (none)) else (none)) else (some false)) else (none)) else (none)) else (some false)) else (none)) else (none)) = some r := by first | (rw [hji7] at H; exact H) | (simp only [hji7] at H ⊢; exact H)
        have hji7w : (IntKind.i64.wrap (a1 - 2)) = ji7 := (i64_w _).trans hji7
        by_cases c8 : 0 ≤ (ji7)
        · rw [if_pos c8] at H
          have c8b0 : decide (0 ≤ (ji7)) = true := decide_eq_true c8
          clear c8
          by_cases c9 : (ji7) < (l0.length : Int)
          · rw [if_pos c9] at H
            have c9b0 : decide ((ji7) < (l0.length : Int)) = true := decide_eq_true c9
            clear c9
            by_cases c10 : (rd l0 (ji4)) = (rd l0 (ji7))
            · rw [if_pos c10] at H
              have c10b0 : ((rd l0 (ji4)) == (rd l0 (ji7))) = true := beq_iff_eq.mpr c10
              have c10b1 : ((rd l0 (ji4)) != (rd l0 (ji7))) = false := bne_eq_false_iff_eq.mpr c10
              clear c10
              obtain ⟨ji11, hji11⟩ : ∃ j_ : Int, (wrap64 (a1 - 3)) = j_ := ⟨_, rfl⟩
              replace H : (if 0 ≤ (ji11) then (if (ji11) < (l0.length : Int) then (if (rd l0 (ji7)) = (rd l0 (ji11)) then (if 0 ≤ (wrap64 (a1 - 4)) then (if (wrap64 (a1 - 4)) < (l0.length : Int) then (if (rd l0 (ji11)) = (rd l0 (wrap64 (a1 - 4))) then (if 0 ≤ (wrap64 (a1 - 5)) then (if (wrap64 (a1 - 5)) < (l0.length : Int) then (some ((rd l0 (wrap64 (a1 - 4))) == (rd l0 (wrap64 (a1 - 5))))) else (none)) else (none)) else (some false)) else (none)) else (none)) else (some false)) else (none)) else (none)) = some r := by first | (rw [hji11] at H; exact H) | (simp only [hji11] at H ⊢; exact H)
              have hji11w : (IntKind.i64.wrap (a1 - 3)) = ji11 := (i64_w _).trans hji11
              by_cases c12 : 0 ≤ (ji11)
              · rw [if_pos c12] at H
                have c12b0 : decide (0 ≤ (ji11)) = true := decide_eq_true c12
                clear c12
                by_cases c13 : (ji11) < (l0.length : Int)
                · rw [if_pos c13] at H
                  have c13b0 : decide ((ji11) < (l0.length : Int)) = true := decide_eq_true c13
                  clear c13
                  by_cases c14 : (rd l0 (ji7)) = (rd l0 (ji11))
                  · rw [if_pos c14] at H
                    have c14b0 : ((rd l0 (ji7)) == (rd l0 (ji11))) = true := beq_iff_eq.mpr c14
                    have c14b1 : ((rd l0 (ji7)) != (rd l0 (ji11))) = false := bne_eq_false_iff_eq.mpr c14
                    clear c14
                    obtain ⟨ji15, hji15⟩ : ∃ j_ : Int, (wrap64 (a1 - 4)) = j_ := ⟨_, rfl⟩
                    replace H : (if 0 ≤ (ji15) then (if (ji15) < (l0.length : Int) then (if (rd l0 (ji11)) = (rd l0 (ji15)) then (if 0 ≤ (wrap64 (a1 - 5)) then (if (wrap64 (a1 - 5)) < (l0.length : Int) then (some ((rd l0 (ji15)) == (rd l0 (wrap64 (a1 - 5))))) else (none)) else (none)) else (some false)) else (none)) else (none)) = some r := by first | (rw [hji15] at H; exact H) | (simp only [hji15] at H ⊢; exact H)
                    have hji15w : (IntKind.i64.wrap (a1 - 4)) = ji15 := (i64_w _).trans hji15
                    by_cases c16 : 0 ≤ (ji15)
                    · rw [if_pos c16] at H
                      have c16b0 : decide (0 ≤ (ji15)) = true := decide_eq_true c16
                      clear c16
                      by_cases c17 : (ji15) < (l0.length : Int)
                      · rw [if_pos c17] at H
                        have c17b0 : decide ((ji15) < (l0.length : Int)) = true := decide_eq_true c17
                        clear c17
                        by_cases c18 : (rd l0 (ji11)) = (rd l0 (ji15))
                        · rw [if_pos c18] at H
                          have c18b0 : ((rd l0 (ji11)) == (rd l0 (ji15))) = true := beq_iff_eq.mpr c18
                          have c18b1 : ((rd l0 (ji11)) != (rd l0 (ji15))) = false := bne_eq_false_iff_eq.mpr c18
                          clear c18
                          obtain ⟨ji19, hji19⟩ : ∃ j_ : Int, (wrap64 (a1 - 5)) = j_ := ⟨_, rfl⟩
                          replace H : (if 0 ≤ (ji19) then (if (ji19) < (l0.length : Int) then (some ((rd l0 (ji15)) == (rd l0 (ji19)))) else (none)) else (none)) = some r := by first | (rw [hji19] at H; exact H) | (simp only [hji19] at H ⊢; exact H)
                          have hji19w : (IntKind.i64.wrap (a1 - 5)) = ji19 := (i64_w _).trans hji19
                          by_cases c20 : 0 ≤ (ji19)
                          · rw [if_pos c20] at H
                            have c20b0 : decide (0 ≤ (ji19)) = true := decide_eq_true c20
                            clear c20
                            by_cases c21 : (ji19) < (l0.length : Int)
                            · rw [if_pos c21] at H
                              have c21b0 : decide ((ji19) < (l0.length : Int)) = true := decide_eq_true c21
                              clear c21
                              obtain rfl := Option.some.inj H
                              have p108 : 0 ≤ ((ji4) : Int) := of_decide_eq_true (by first | (with_reducible assumption) | assumption)
                              have q108 : (ji4) < (l0.length : Int) := of_decide_eq_true (by first | (with_reducible assumption) | assumption)
                              obtain ⟨ad108, e108, hx108_0⟩ := Kd.at_int HR0.out (ji4) p108 q108
                              cases e108
                              replace p108 := eq_true p108
                              replace q108 := eq_true q108
                              have p109 : 0 ≤ ((ji7) : Int) := of_decide_eq_true (by first | (with_reducible assumption) | assumption)
                              have q109 : (ji7) < (l0.length : Int) := of_decide_eq_true (by first | (with_reducible assumption) | assumption)
                              obtain ⟨ad109, e109, hx109_0⟩ := Kd.at_int HR0.out (ji7) p109 q109
                              obtain rfl : ad108 = ad109 := (by injection e109)
                              replace p109 := eq_true p109
                              replace q109 := eq_true q109
                              have p110 : 0 ≤ ((ji7) : Int) := of_decide_eq_true (by first | (with_reducible assumption) | assumption)
                              have q110 : (ji7) < (l0.length : Int) := of_decide_eq_true (by first | (with_reducible assumption) | assumption)
                              obtain ⟨ad110, e110, hx110_0⟩ := Kd.at_int HR0.out (ji7) p110 q110
                              obtain rfl : ad108 = ad110 := (by injection e110)
                              replace p110 := eq_true p110
                              replace q110 := eq_true q110
                              have p111 : 0 ≤ ((ji11) : Int) := of_decide_eq_true (by first | (with_reducible assumption) | assumption)
                              have q111 : (ji11) < (l0.length : Int) := of_decide_eq_true (by first | (with_reducible assumption) | assumption)
                              obtain ⟨ad111, e111, hx111_0⟩ := Kd.at_int HR0.out (ji11) p111 q111
                              obtain rfl : ad108 = ad111 := (by injection e111)
                              replace p111 := eq_true p111
                              replace q111 := eq_true q111
                              have p112 : 0 ≤ ((ji11) : Int) := of_decide_eq_true (by first | (with_reducible assumption) | assumption)
                              have q112 : (ji11) < (l0.length : Int) := of_decide_eq_true (by first | (with_reducible assumption) | assumption)
                              obtain ⟨ad112, e112, hx112_0⟩ := Kd.at_int HR0.out (ji11) p112 q112
                              obtain rfl : ad108 = ad112 := (by injection e112)
                              replace p112 := eq_true p112
                              replace q112 := eq_true q112
                              have p113 : 0 ≤ ((ji15) : Int) := of_decide_eq_true (by first | (with_reducible assumption) | assumption)
                              have q113 : (ji15) < (l0.length : Int) := of_decide_eq_true (by first | (with_reducible assumption) | assumption)
                              obtain ⟨ad113, e113, hx113_0⟩ := Kd.at_int HR0.out (ji15) p113 q113
                              obtain rfl : ad108 = ad113 := (by injection e113)
                              replace p113 := eq_true p113
                              replace q113 := eq_true q113
                              have p114 : 0 ≤ ((ji15) : Int) := of_decide_eq_true (by first | (with_reducible assumption) | assumption)
                              have q114 : (ji15) < (l0.length : Int) := of_decide_eq_true (by first | (with_reducible assumption) | assumption)
                              obtain ⟨ad114, e114, hx114_0⟩ := Kd.at_int HR0.out (ji15) p114 q114
                              obtain rfl : ad108 = ad114 := (by injection e114)
                              replace p114 := eq_true p114
                              replace q114 := eq_true q114
                              have p115 : 0 ≤ ((ji19) : Int) := of_decide_eq_true (by first | (with_reducible assumption) | assumption)
                              have q115 : (ji19) < (l0.length : Int) := of_decide_eq_true (by first | (with_reducible assumption) | assumption)
                              obtain ⟨ad115, e115, hx115_0⟩ := Kd.at_int HR0.out (ji19) p115 q115
                              obtain rfl : ad108 = ad115 := (by injection e115)
                              replace p115 := eq_true p115
                              replace q115 := eq_true q115
                              go_enter Try.func139, Try.ntmps139
                              go_wp2
                              repeat (go_quiet (fail); try go_wp2)
                              go_ret
                              exact ⟨by first | rfl | (simp; done) | (simp only [← hji4, ← hji7, ← hji11, ← hji15, ← hji19] <;> (first | rfl | simp)) | (simp [*]; done), by repeat (first | exact Drawn0.refl _ | apply Drawn0.step)⟩
                            · rw [if_neg c21] at H
                              exact absurd H (by simp)
                          · rw [if_neg c20] at H
                            exact absurd H (by simp)
                        · rw [if_neg c18] at H
                          have c18b0 : ((rd l0 (ji11)) == (rd l0 (ji15))) = false := beq_eq_false_iff_ne.mpr c18
                          have c18b1 : ((rd l0 (ji11)) != (rd l0 (ji15))) = true := bne_iff_ne.mpr c18
                          obtain rfl := Option.some.inj H
                          have p108 : 0 ≤ ((ji4) : Int) := of_decide_eq_true (by first | (with_reducible assumption) | assumption)
                          have q108 : (ji4) < (l0.length : Int) := of_decide_eq_true (by first | (with_reducible assumption) | assumption)
                          obtain ⟨ad108, e108, hx108_0⟩ := Kd.at_int HR0.out (ji4) p108 q108
                          cases e108
                          replace p108 := eq_true p108
                          replace q108 := eq_true q108
                          have p109 : 0 ≤ ((ji7) : Int) := of_decide_eq_true (by first | (with_reducible assumption) | assumption)
                          have q109 : (ji7) < (l0.length : Int) := of_decide_eq_true (by first | (with_reducible assumption) | assumption)
                          obtain ⟨ad109, e109, hx109_0⟩ := Kd.at_int HR0.out (ji7) p109 q109
                          obtain rfl : ad108 = ad109 := (by injection e109)
                          replace p109 := eq_true p109
                          replace q109 := eq_true q109
                          have p110 : 0 ≤ ((ji7) : Int) := of_decide_eq_true (by first | (with_reducible assumption) | assumption)
                          have q110 : (ji7) < (l0.length : Int) := of_decide_eq_true (by first | (with_reducible assumption) | assumption)
                          obtain ⟨ad110, e110, hx110_0⟩ := Kd.at_int HR0.out (ji7) p110 q110
                          obtain rfl : ad108 = ad110 := (by injection e110)
                          replace p110 := eq_true p110
                          replace q110 := eq_true q110
                          have p111 : 0 ≤ ((ji11) : Int) := of_decide_eq_true (by first | (with_reducible assumption) | assumption)
                          have q111 : (ji11) < (l0.length : Int) := of_decide_eq_true (by first | (with_reducible assumption) | assumption)
                          obtain ⟨ad111, e111, hx111_0⟩ := Kd.at_int HR0.out (ji11) p111 q111
                          obtain rfl : ad108 = ad111 := (by injection e111)
                          replace p111 := eq_true p111
                          replace q111 := eq_true q111
                          have p112 : 0 ≤ ((ji11) : Int) := of_decide_eq_true (by first | (with_reducible assumption) | assumption)
                          have q112 : (ji11) < (l0.length : Int) := of_decide_eq_true (by first | (with_reducible assumption) | assumption)
                          obtain ⟨ad112, e112, hx112_0⟩ := Kd.at_int HR0.out (ji11) p112 q112
                          obtain rfl : ad108 = ad112 := (by injection e112)
                          replace p112 := eq_true p112
                          replace q112 := eq_true q112
                          have p113 : 0 ≤ ((ji15) : Int) := of_decide_eq_true (by first | (with_reducible assumption) | assumption)
                          have q113 : (ji15) < (l0.length : Int) := of_decide_eq_true (by first | (with_reducible assumption) | assumption)
                          obtain ⟨ad113, e113, hx113_0⟩ := Kd.at_int HR0.out (ji15) p113 q113
                          obtain rfl : ad108 = ad113 := (by injection e113)
                          replace p113 := eq_true p113
                          replace q113 := eq_true q113
                          go_enter Try.func139, Try.ntmps139
                          go_wp2
                          repeat (go_quiet (fail); try go_wp2)
                          go_ret
                          exact ⟨by first | rfl | (simp; done) | (simp only [← hji4, ← hji7, ← hji11, ← hji15] <;> (first | rfl | simp)) | (simp [*]; done), by repeat (first | exact Drawn0.refl _ | apply Drawn0.step)⟩
                      · rw [if_neg c17] at H
                        exact absurd H (by simp)
                    · rw [if_neg c16] at H
                      exact absurd H (by simp)
                  · rw [if_neg c14] at H
                    have c14b0 : ((rd l0 (ji7)) == (rd l0 (ji11))) = false := beq_eq_false_iff_ne.mpr c14
                    have c14b1 : ((rd l0 (ji7)) != (rd l0 (ji11))) = true := bne_iff_ne.mpr c14
                    obtain rfl := Option.some.inj H
                    have p108 : 0 ≤ ((ji4) : Int) := of_decide_eq_true (by first | (with_reducible assumption) | assumption)
                    have q108 : (ji4) < (l0.length : Int) := of_decide_eq_true (by first | (with_reducible assumption) | assumption)
                    obtain ⟨ad108, e108, hx108_0⟩ := Kd.at_int HR0.out (ji4) p108 q108
                    cases e108
                    replace p108 := eq_true p108
                    replace q108 := eq_true q108
                    have p109 : 0 ≤ ((ji7) : Int) := of_decide_eq_true (by first | (with_reducible assumption) | assumption)
                    have q109 : (ji7) < (l0.length : Int) := of_decide_eq_true (by first | (with_reducible assumption) | assumption)
                    obtain ⟨ad109, e109, hx109_0⟩ := Kd.at_int HR0.out (ji7) p109 q109
                    obtain rfl : ad108 = ad109 := (by injection e109)
                    replace p109 := eq_true p109
                    replace q109 := eq_true q109
                    have p110 : 0 ≤ ((ji7) : Int) := of_decide_eq_true (by first | (with_reducible assumption) | assumption)
                    have q110 : (ji7) < (l0.length : Int) := of_decide_eq_true (by first | (with_reducible assumption) | assumption)
                    obtain ⟨ad110, e110, hx110_0⟩ := Kd.at_int HR0.out (ji7) p110 q110
                    obtain rfl : ad108 = ad110 := (by injection e110)
                    replace p110 := eq_true p110
                    replace q110 := eq_true q110
                    have p111 : 0 ≤ ((ji11) : Int) := of_decide_eq_true (by first | (with_reducible assumption) | assumption)
                    have q111 : (ji11) < (l0.length : Int) := of_decide_eq_true (by first | (with_reducible assumption) | assumption)
                    obtain ⟨ad111, e111, hx111_0⟩ := Kd.at_int HR0.out (ji11) p111 q111
                    obtain rfl : ad108 = ad111 := (by injection e111)
                    replace p111 := eq_true p111
                    replace q111 := eq_true q111
                    go_enter Try.func139, Try.ntmps139
                    go_wp2
                    repeat (go_quiet (fail); try go_wp2)
                    go_ret
                    exact ⟨by first | rfl | (simp; done) | (simp only [← hji4, ← hji7, ← hji11] <;> (first | rfl | simp)) | (simp [*]; done), by repeat (first | exact Drawn0.refl _ | apply Drawn0.step)⟩
                · rw [if_neg c13] at H
                  exact absurd H (by simp)
              · rw [if_neg c12] at H
                exact absurd H (by simp)
            · rw [if_neg c10] at H
              have c10b0 : ((rd l0 (ji4)) == (rd l0 (ji7))) = false := beq_eq_false_iff_ne.mpr c10
              have c10b1 : ((rd l0 (ji4)) != (rd l0 (ji7))) = true := bne_iff_ne.mpr c10
              obtain rfl := Option.some.inj H
              have p108 : 0 ≤ ((ji4) : Int) := of_decide_eq_true (by first | (with_reducible assumption) | assumption)
              have q108 : (ji4) < (l0.length : Int) := of_decide_eq_true (by first | (with_reducible assumption) | assumption)
              obtain ⟨ad108, e108, hx108_0⟩ := Kd.at_int HR0.out (ji4) p108 q108
              cases e108
              replace p108 := eq_true p108
              replace q108 := eq_true q108
              have p109 : 0 ≤ ((ji7) : Int) := of_decide_eq_true (by first | (with_reducible assumption) | assumption)
              have q109 : (ji7) < (l0.length : Int) := of_decide_eq_true (by first | (with_reducible assumption) | assumption)
              obtain ⟨ad109, e109, hx109_0⟩ := Kd.at_int HR0.out (ji7) p109 q109
              obtain rfl : ad108 = ad109 := (by injection e109)
              replace p109 := eq_true p109
              replace q109 := eq_true q109
              go_enter Try.func139, Try.ntmps139
              go_wp2
              repeat (go_quiet (fail); try go_wp2)
              go_ret
              exact ⟨by first | rfl | (simp; done) | (simp only [← hji4, ← hji7] <;> (first | rfl | simp)) | (simp [*]; done), by repeat (first | exact Drawn0.refl _ | apply Drawn0.step)⟩
          · rw [if_neg c9] at H
            exact absurd H (by simp)
        · rw [if_neg c8] at H
          exact absurd H (by simp)
      · rw [if_neg c6] at H
        exact absurd H (by simp)
    · rw [if_neg c5] at H
      exact absurd H (by simp)

end Go.Proofs.Ytdoclpgciadjaaa.P

namespace Go.Proofs.Ytdoclpgciadjaaa.P
open Go.RowKit Go.Proofs.YtdoclpgciadjaaaW.PrintWords Go.Proofs.YtdoclpgciadjaaaW.PrintLast Go.Proofs.YtdoclpgciadjaaaW.PrintMore
attribute [local go_sem] max2_int min2_int max_two min_two max_three min_three max_four min_four
set_option linter.unusedVariables false
set_option linter.unusedSimpArgs false

/-! ### spec_l1other: function 148 -/
def spec_l1other.f (a0 : Int) : Option (Int) := if a0 = 48 then (some 49) else (some 48)
set_option maxHeartbeats 8000000 in
set_option maxRecDepth 100000 in
theorem spec_l1other.calls (a0 : Int) (r : Int) (w : World) (h : spec_l1other.f a0 = some r) :
    Calls Try.prog 148 #[.int .u8 a0] w fun e w' => e = .returned (.int .u8 r) ∧ Drawn0 w w' := by
  have H : (if a0 = 48 then (some 49) else (some 48)) = some r := h
  clear h
  by_cases c2 : a0 = 48
  · rw [if_pos c2] at H
    have c2b0 : (a0 == 48) = true := beq_iff_eq.mpr c2
    have c2b1 : (a0 != 48) = false := bne_eq_false_iff_eq.mpr c2
    clear c2
    obtain rfl := Option.some.inj H
    go_enter Try.func148, Try.ntmps148
    go_wp2
    go_ret
    exact ⟨by first | rfl | (simp; done) | (simp [*]; done), by repeat (first | exact Drawn0.refl _ | apply Drawn0.step)⟩
  · rw [if_neg c2] at H
    have c2b0 : (a0 == 48) = false := beq_eq_false_iff_ne.mpr c2
    have c2b1 : (a0 != 48) = true := bne_iff_ne.mpr c2
    obtain rfl := Option.some.inj H
    go_enter Try.func148, Try.ntmps148
    go_wp2
    go_ret
    exact ⟨by first | rfl | (simp; done) | (simp [*]; done), by repeat (first | exact Drawn0.refl _ | apply Drawn0.step)⟩

end Go.Proofs.Ytdoclpgciadjaaa.P

namespace Go.Proofs.Ytdoclpgciadjaaa.P
open Go.RowKit Go.Proofs.YtdoclpgciadjaaaW.PrintWords Go.Proofs.YtdoclpgciadjaaaW.PrintLast Go.Proofs.YtdoclpgciadjaaaW.PrintMore
attribute [local go_sem] max2_int min2_int max_two min_two max_three min_three max_four min_four
set_option linter.unusedVariables false
set_option linter.unusedSimpArgs false

/-! ### spec_Stuff: function 106 -/
def spec_Stuff.l0 : Nat → ByteArray → List Int → Int → Option (ByteArray)
  | 0, _, _, _ => none
  | k + 1, x0, x3, x4 => if x4 < (x0.size : Int) then (if 0 ≤ x4 then (if x3.length < 140737488355328 then ((some (x3 ++ [bt x0 x4] : List Int)).bind fun y120 => ((spec_l1due.f y120 (y120.length : Int)).bind fun t123 => (if t123 = true then ((spec_l1other.f (bt x0 x4)).bind fun t124 => (if y120.length < 140737488355328 then (spec_Stuff.l0 k x0 (y120 ++ [t124]) (wrap64 (x4 + 1))) else (none))) else (spec_Stuff.l0 k x0 y120 (wrap64 (x4 + 1)))))) else (none)) else (none)) else (some (strOfNums x3))
def spec_Stuff.f (k : Nat) (a0 : ByteArray) : Option (ByteArray) := (spec_l1okBits.f k a0 2000).bind fun t116 => (if t116 = true then (spec_Stuff.l0 k a0 (([] : List Int)) 0) else (some (⟨#[]⟩ : ByteArray)))
theorem spec_Stuff.mono_l : ∀ k, (∀ y0 y1 y2, LeO (spec_Stuff.l0 k y0 y1 y2) (spec_Stuff.l0 (k + 1) y0 y1 y2))
  | 0 => fun _ _ _ r h => by simp [spec_Stuff.l0] at h
  | k + 1 => by
    have ih0 := spec_Stuff.mono_l k
    · intro y0 y1 y2
      unfold spec_Stuff.l0
      repeat' first
      | (with_reducible exact ih0 _ _ _)
      | (with_reducible exact spec_l1okBits.mono _ _ _)
      | (with_reducible exact LeO.refl _)
      | (with_reducible exact LeO.none _)
      | (with_reducible refine LeO.ite ?_ ?_)
      | (with_reducible refine LeO.bind ?_ (fun _ => ?_))
      | exact ih0 _ _ _
      | exact spec_l1okBits.mono _ _ _
      | exact LeO.none _
      | refine LeO.ite ?_ ?_
      | refine LeO.bind ?_ (fun _ => ?_)
theorem spec_Stuff.mono : ∀ a0 k, LeO (spec_Stuff.f k a0) (spec_Stuff.f (k + 1) a0) := by
  intro a0 k
  have ih0 := spec_Stuff.mono_l k
  unfold spec_Stuff.f
  repeat' first
      | (with_reducible exact ih0 _ _ _)
      | (with_reducible exact spec_l1okBits.mono _ _ _)
      | (with_reducible exact LeO.refl _)
      | (with_reducible exact LeO.none _)
      | (with_reducible refine LeO.ite ?_ ?_)
      | (with_reducible refine LeO.bind ?_ (fun _ => ?_))
      | exact ih0 _ _ _
      | exact spec_l1okBits.mono _ _ _
      | exact LeO.none _
      | refine LeO.ite ?_ ?_
      | refine LeO.bind ?_ (fun _ => ?_)
set_option maxHeartbeats 8000000 in
set_option maxRecDepth 100000 in
theorem spec_Stuff.calls (k : Nat) (a0 : ByteArray) (r : ByteArray) (w : World) (h : spec_Stuff.f k a0 = some r) :
    Calls Try.prog 106 #[.string a0] w fun e w' => e = .returned (.string r) ∧ Below w.heap.size w w' := by
  have HB := Aside0.mk (Below.refl w.heap.size w)
  have H : ((spec_l1okBits.f k a0 2000).bind fun t116 => (if t116 = true then (spec_Stuff.l0 k a0 (([] : List Int)) 0) else (some (⟨#[]⟩ : ByteArray)))) = some r := h
  clear h
  replace H := Option.bind_eq_some_iff.mp H
  obtain ⟨t116, A20, H⟩ := H
  replace H : (if t116 = true then (spec_Stuff.l0 k a0 (([] : List Int)) 0) else (some (⟨#[]⟩ : ByteArray))) = some r := H
  have A2 := Aside0.mk A20
  clear A20
  by_cases c3 : t116 = true
  · subst c3
    have H1 : (spec_Stuff.l0 k a0 (([] : List Int)) 0) = some r := by rw [if_pos rfl] at H; exact H
    clear H
    have H := H1
    clear H1
    obtain ⟨y117, hy117⟩ : ∃ y_ : List Int, y_ = (([] : List Int)) := ⟨_, rfl⟩
    replace H : (spec_Stuff.l0 k a0 y117 0) = some r := by first | (rw [hy117]; with_reducible exact H) | (have H2_ := (Option.bind_some _ _).symm.trans H; rw [hy117]; with_reducible exact H2_) | (have H2_ := (Option.bind_some _ _).symm.trans H; with_reducible exact H2_) | with_reducible exact H | (rw [hy117]; exact H) | exact H
    have Ny117 := Aside0.mk hy117
    clear hy117
    have H' := Aside0.mk H
    clear H
    go_enter Try.func106, Try.ntmps106
    go_wp2_with (first | ((with_reducible refine gate_callee (f := 128) rfl ?_); refine goesL_ (some 6) rfl rfl Try.func128 (by kernel_rfl) rfl #[.string a0, .int .i64 2000] rfl (by (try simp only [List.map_toArray, List.map_cons, List.map_nil]); first | done | rfl | (simp only [List.length_drop, List.length_take]; rfl)) ?_; (with_reducible refine (spec_l1okBits.calls k a0 2000 true _ A2.out).mono ?_); rintro e w' ⟨rfl, ⟨nd, rfl⟩⟩; refine ⟨_, rfl, ?_⟩) | ((with_reducible refine gate_dst (N := 8) rfl ?_); refine Kd.R_lit (Kd.int .u8) _ 5 ?hg (N := 8) ?hd (xs := ([] : List Int)) (inner := []) (ok := fun _ => True) (okp := fun _ => True) ?hr ?hp (fun _ hk => hk) trivial (Below.refl _ _) (Nat.le_refl _) (by simp) ?_; (case hd => rfl); (case hg => rfl); (case hr => first | (go_simp; done) | (go_simp; rfl)); (case hp => exact (Reps.none _ _)); intro v118 w4 ho5 hb hg_ hnew_; clear hg_ hnew_; (first | rw [← Ny117.out] at ho5 | (simp only [Int.reduceToNat] at ho5; rw [← Ny117.out] at ho5)); have n0_ := Aside0.mk (Kd.R_lower ho5 (below_size (by repeat (first | (with_reducible first | exact HB.out | apply below_alloc | apply pw_below_drewN | apply below_drew1) | exact HB.out)))); have n1_ := Aside0.mk (below_step (by repeat (first | (with_reducible first | exact HB.out | apply below_alloc | apply pw_below_drewN | apply below_drew1) | exact HB.out)) hb); clear HB; have HO119 := n0_; have HB := n1_; clear n0_ n1_; clear hb ho5))
    go_loopg [3, 4] k (fun kq v3 v4 w' => ∃ (x3_1 : List Int) (x4_1 : Int), v4 = .int .i64 x4_1 ∧ Aside0 (spec_Stuff.l0 kq a0 x3_1 x4_1 = some r) ∧ Aside0 (kq ≤ k) ∧ Aside0 (Kd.R (Kd.int .u8) 5 w' w.heap.size (fun _ => True) v3 x3_1) ∧ Aside0 (Below w.heap.size w w'))
    case atStart => exact ⟨(y117), (0), (by first | rfl | (simp; done) | (simp [*]; done)), H', ⟨Nat.le_refl _⟩, ⟨by (with_reducible repeat (first | apply Kd.R_alloc | apply Kd.R_drewN | apply Kd.R_drew)); exact HO119.out⟩, ⟨by repeat (first | (with_reducible first | exact HB.out | apply below_alloc | apply pw_below_drewN | apply below_drew1) | exact HB.out)⟩⟩
    case round =>
      clear H'
      try clear c1
      try clear p2
      try clear c3
      obtain ⟨x3_1, x4_1, rfl, HA, HK1, HO_3, HB⟩ := hrel
      cases gk with
      | zero => exact absurd HA.out (by simp [spec_Stuff.l0])
      | succ k1 =>
        have H := HA.out
        clear HA
        simp only [spec_Stuff.l0] at H
        by_cases c6 : x4_1 < (a0.size : Int)
        · rw [if_pos c6] at H
          have c6b0 : decide (x4_1 < (a0.size : Int)) = true := decide_eq_true c6
          clear c6
          by_cases c7 : 0 ≤ x4_1
          · rw [if_pos c7] at H
            have c7b0 : decide (0 ≤ x4_1) = true := decide_eq_true c7
            clear c7
            by_cases c9 : x3_1.length < 140737488355328
            · rw [if_pos c9] at H
              have LMc9 := Aside0.mk c9
              clear c9
              obtain ⟨y120, hy120⟩ : ∃ y_ : List Int, y_ = (x3_1 ++ [bt a0 x4_1]) := ⟨_, rfl⟩
              replace H : ((spec_l1due.f y120 (y120.length : Int)).bind fun t123 => (if t123 = true then ((spec_l1other.f (bt a0 x4_1)).bind fun t124 => (if y120.length < 140737488355328 then (spec_Stuff.l0 k1 a0 (y120 ++ [t124]) (wrap64 (x4_1 + 1))) else (none))) else (spec_Stuff.l0 k1 a0 y120 (wrap64 (x4_1 + 1))))) = some r := by first | (rw [hy120]; with_reducible exact H) | (have H2_ := (Option.bind_some _ _).symm.trans H; rw [hy120]; with_reducible exact H2_) | (have H2_ := (Option.bind_some _ _).symm.trans H; with_reducible exact H2_) | with_reducible exact H | (rw [hy120]; exact H) | exact H
              have Ny120 := Aside0.mk hy120
              clear hy120
              replace H := Option.bind_eq_some_iff.mp H
              obtain ⟨t123, A100, H⟩ := H
              replace H : (if t123 = true then ((spec_l1other.f (bt a0 x4_1)).bind fun t124 => (if y120.length < 140737488355328 then (spec_Stuff.l0 k1 a0 (y120 ++ [t124]) (wrap64 (x4_1 + 1))) else (none))) else (spec_Stuff.l0 k1 a0 y120 (wrap64 (x4_1 + 1)))) = some r := H
              have A10 := Aside0.mk A100
              clear A100
              by_cases c11 : t123 = true
              · subst c11
                have H1 : ((spec_l1other.f (bt a0 x4_1)).bind fun t124 => (if y120.length < 140737488355328 then (spec_Stuff.l0 k1 a0 (y120 ++ [t124]) (wrap64 (x4_1 + 1))) else (none))) = some r := by rw [if_pos rfl] at H; exact H
                clear H
                have H := H1
                clear H1
                replace H := Option.bind_eq_some_iff.mp H
                obtain ⟨t124, A130, H⟩ := H
                replace H : (if y120.length < 140737488355328 then (spec_Stuff.l0 k1 a0 (y120 ++ [t124]) (wrap64 (x4_1 + 1))) else (none)) = some r := H
                have A13 := Aside0.mk A130
                clear A130
                by_cases c14 : y120.length < 140737488355328
                · rw [if_pos c14] at H
                  have LMc14 := Aside0.mk c14
                  clear c14
                  obtain ⟨y125, hy125⟩ : ∃ y_ : List Int, y_ = (y120 ++ [t124]) := ⟨_, rfl⟩
                  replace H : (spec_Stuff.l0 k1 a0 y125 (wrap64 (x4_1 + 1))) = some r := by first | (rw [hy125]; with_reducible exact H) | (have H2_ := (Option.bind_some _ _).symm.trans H; rw [hy125]; with_reducible exact H2_) | (have H2_ := (Option.bind_some _ _).symm.trans H; with_reducible exact H2_) | with_reducible exact H | (rw [hy125]; exact H) | exact H
                  have Ny125 := Aside0.mk hy125
                  clear hy125
                  have H' := Aside0.mk H
                  clear H
                  have p8 : 0 ≤ (x4_1 : Int) := of_decide_eq_true (by first | (with_reducible assumption) | assumption)
                  have q8 : x4_1 < (a0.size : Int) := of_decide_eq_true (by first | (with_reducible assumption) | assumption)
                  have hx8 := bt_at a0 x4_1
                  replace p8 := eq_true p8
                  replace q8 := eq_true q8
                  go_wp2_with (first | ((with_reducible refine gate_builtin (b := .append) (xs := #[.tmp 15, .tmp 19]) rfl ?_); at_builtin; refine Kd.R_append (Kd.int .u8) (w0 := w) w.heap.size rfl (.tmp 15) (.tmp 19) 22 5 (.int .u8 0) 1 rfl Try.underlying22 info5 rfl (by decide) (by omega) u3 x3_1 (bt a0 x4_1) [.int .u8 (bt a0 x4_1)] (fun _ => True) (fun _ => False) rfl rfl ?aP (fun _ hk => hk.elim) ?aF ?aO ?aB ?aS ?aL ?_; (case aP => exact rfl); (case aB => exact (by repeat (first | (with_reducible first | exact HB.out | apply below_alloc | apply pw_below_drewN | apply below_drew1) | exact HB.out))); (case aF => exact (fun _ _ => trivial)); (case aO => exact (by (with_reducible repeat (first | apply Kd.R_alloc | apply Kd.R_drewN | apply Kd.R_drew)); exact HO_3.out)); (case aS => exact (below_size (by repeat (first | (with_reducible first | exact HB.out | apply below_alloc | apply pw_below_drewN | apply below_drew1) | exact HB.out)))); (case aL => have := LMc9.out; omega); intro v121 w15 ho hb hg hat; rw [← Ny120.out] at ho; have n0_ := Aside0.mk (hb); have n1_ := Aside0.mk (ho); clear HB; clear HO_3; have HB := n0_; have HO122 := n1_; clear n0_ n1_; clear ho hb hg hat; obtain ⟨Ao16, co16, eo16⟩ := Kd.R_slice HO122.out; subst eo16) | ((with_reducible refine gate_callee (f := 139) rfl ?_); refine goesL_ (some 24) rfl rfl Try.func139 (by kernel_rfl) rfl #[.slice Ao16 y120.length co16, .int .i64 (y120.length : Int)] rfl (by (try simp only [List.map_toArray, List.map_cons, List.map_nil]); first | done | rfl | (simp only [List.length_drop, List.length_take]; rfl)) ?_; (with_reducible refine (spec_l1due.calls _ _ y120 (y120.length : Int) true _ ?side1 ?side2 A10.out).mono ?_); (case side1 => repeat (first | exact (Kd.R_reads' HO122.out).2.2 | (with_reducible refine Kd.C_alloc ?_ _) | (with_reducible refine Kd.C_drewN ?_ _) | (with_reducible refine Kd.C_drew ?_))); (case side2 => exact (Kd.R_reads' HO122.out).2.1); rintro e w' ⟨rfl, ⟨nd, rfl⟩⟩; refine ⟨_, rfl, ?_⟩; have p12 : 0 ≤ (x4_1 : Int) := of_decide_eq_true (by first | (with_reducible assumption) | assumption); have q12 : x4_1 < (a0.size : Int) := of_decide_eq_true (by first | (with_reducible assumption) | assumption); have hx12 := bt_at a0 x4_1; replace p12 := eq_true p12; replace q12 := eq_true q12) | ((with_reducible refine gate_callee (f := 148) rfl ?_); refine goesL_ (some 29) rfl rfl Try.func148 (by kernel_rfl) rfl #[.int .u8 (bt a0 x4_1)] rfl (by (try simp only [List.map_toArray, List.map_cons, List.map_nil]); first | done | rfl | (simp only [List.length_drop, List.length_take]; rfl)) ?_; (with_reducible refine (spec_l1other.calls (bt a0 x4_1) t124 _ A13.out).mono ?_); rintro e w' ⟨rfl, ⟨nd, rfl⟩⟩; refine ⟨_, rfl, ?_⟩) | ((with_reducible refine gate_builtin (b := .append) (xs := #[.tmp 25, .tmp 30]) rfl ?_); at_builtin; refine Kd.R_append (Kd.int .u8) (w0 := w) w.heap.size rfl (.tmp 25) (.tmp 30) 22 5 (.int .u8 0) 1 rfl Try.underlying22 info5 rfl (by decide) (by omega) (.slice Ao16 y120.length co16) y120 t124 [.int .u8 t124] (fun _ => True) (fun _ => False) rfl rfl ?aP (fun _ hk => hk.elim) ?aF ?aO ?aB ?aS ?aL ?_; (case aP => exact rfl); (case aB => exact (by repeat (first | (with_reducible first | exact HB.out | apply below_alloc | apply pw_below_drewN | apply below_drew1) | exact HB.out))); (case aF => exact (fun _ _ => trivial)); (case aO => exact (by (with_reducible repeat (first | apply Kd.R_alloc | apply Kd.R_drewN | apply Kd.R_drew)); exact HO122.out)); (case aS => exact (below_size (by repeat (first | (with_reducible first | exact HB.out | apply below_alloc | apply pw_below_drewN | apply below_drew1) | exact HB.out)))); (case aL => have := LMc14.out; omega); intro v126 w17 ho hb hg hat; rw [← Ny125.out] at ho; have n0_ := Aside0.mk (hb); have n1_ := Aside0.mk (ho); clear HB; clear HO122; have HB := n0_; have HO127 := n1_; clear n0_ n1_; clear ho hb hg hat))
                  go_roundg k1
                  case measure => have := HK1.out; omega
                  case rel => exact ⟨(y125), (wrap64 (x4_1 + 1)), (by first | rfl | (simp; done) | (simp [*]; done)), H', ⟨by have := HK1.out; omega⟩, ⟨by (with_reducible repeat (first | apply Kd.R_alloc | apply Kd.R_drewN | apply Kd.R_drew)); exact HO127.out⟩, ⟨by repeat (first | (with_reducible first | exact HB.out | apply below_alloc | apply pw_below_drewN | apply below_drew1) | exact HB.out)⟩⟩
                · rw [if_neg c14] at H
                  exact absurd H (by simp)
              · replace c11 := Bool.eq_false_iff.mpr c11
                subst c11
                have H1 : (spec_Stuff.l0 k1 a0 y120 (wrap64 (x4_1 + 1))) = some r := by rw [if_neg (show ¬ (false = true) by decide)] at H; exact H
                clear H
                have H := H1
                clear H1
                have H' := Aside0.mk H
                clear H
                have p8 : 0 ≤ (x4_1 : Int) := of_decide_eq_true (by first | (with_reducible assumption) | assumption)
                have q8 : x4_1 < (a0.size : Int) := of_decide_eq_true (by first | (with_reducible assumption) | assumption)
                have hx8 := bt_at a0 x4_1
                replace p8 := eq_true p8
                replace q8 := eq_true q8
                go_wp2_with (first | ((with_reducible refine gate_builtin (b := .append) (xs := #[.tmp 15, .tmp 19]) rfl ?_); at_builtin; refine Kd.R_append (Kd.int .u8) (w0 := w) w.heap.size rfl (.tmp 15) (.tmp 19) 22 5 (.int .u8 0) 1 rfl Try.underlying22 info5 rfl (by decide) (by omega) u3 x3_1 (bt a0 x4_1) [.int .u8 (bt a0 x4_1)] (fun _ => True) (fun _ => False) rfl rfl ?aP (fun _ hk => hk.elim) ?aF ?aO ?aB ?aS ?aL ?_; (case aP => exact rfl); (case aB => exact (by repeat (first | (with_reducible first | exact HB.out | apply below_alloc | apply pw_below_drewN | apply below_drew1) | exact HB.out))); (case aF => exact (fun _ _ => trivial)); (case aO => exact (by (with_reducible repeat (first | apply Kd.R_alloc | apply Kd.R_drewN | apply Kd.R_drew)); exact HO_3.out)); (case aS => exact (below_size (by repeat (first | (with_reducible first | exact HB.out | apply below_alloc | apply pw_below_drewN | apply below_drew1) | exact HB.out)))); (case aL => have := LMc9.out; omega); intro v121 w18 ho hb hg hat; rw [← Ny120.out] at ho; have n0_ := Aside0.mk (hb); have n1_ := Aside0.mk (ho); clear HB; clear HO_3; have HB := n0_; have HO122 := n1_; clear n0_ n1_; clear ho hb hg hat; obtain ⟨Ao19, co19, eo19⟩ := Kd.R_slice HO122.out; subst eo19) | ((with_reducible refine gate_callee (f := 139) rfl ?_); refine goesL_ (some 24) rfl rfl Try.func139 (by kernel_rfl) rfl #[.slice Ao19 y120.length co19, .int .i64 (y120.length : Int)] rfl (by (try simp only [List.map_toArray, List.map_cons, List.map_nil]); first | done | rfl | (simp only [List.length_drop, List.length_take]; rfl)) ?_; (with_reducible refine (spec_l1due.calls _ _ y120 (y120.length : Int) false _ ?side1 ?side2 A10.out).mono ?_); (case side1 => repeat (first | exact (Kd.R_reads' HO122.out).2.2 | (with_reducible refine Kd.C_alloc ?_ _) | (with_reducible refine Kd.C_drewN ?_ _) | (with_reducible refine Kd.C_drew ?_))); (case side2 => exact (Kd.R_reads' HO122.out).2.1); rintro e w' ⟨rfl, ⟨nd, rfl⟩⟩; refine ⟨_, rfl, ?_⟩))
                go_roundg k1
                case measure => have := HK1.out; omega
                case rel => exact ⟨(y120), (wrap64 (x4_1 + 1)), (by first | rfl | (simp; done) | (simp [*]; done)), H', ⟨by have := HK1.out; omega⟩, ⟨by (with_reducible repeat (first | apply Kd.R_alloc | apply Kd.R_drewN | apply Kd.R_drew)); exact HO122.out⟩, ⟨by repeat (first | (with_reducible first | exact HB.out | apply below_alloc | apply pw_below_drewN | apply below_drew1) | exact HB.out)⟩⟩
            · rw [if_neg c9] at H
              exact absurd H (by simp)
          · rw [if_neg c7] at H
            exact absurd H (by simp)
        · rw [if_neg c6] at H
          have c6b0 : decide (x4_1 < (a0.size : Int)) = false := decide_eq_false c6
          clear c6
          obtain rfl := Option.some.inj H
          have hcv20 := own_string (P := Try.prog) Try.underlying22 Try.underlying5 Try.underlying9 (Kd.own_of_R HO_3.out)
          go_wp2
          go_ret
          exact ⟨by first | rfl | (simp [errW_none, errW_some] <;> rfl) | (simp [*, errW_none, errW_some] <;> rfl), by repeat (first | (with_reducible first | exact HB.out | apply below_alloc | apply pw_below_drewN | apply below_drew1) | exact HB.out)⟩
  · replace c3 := Bool.eq_false_iff.mpr c3
    subst c3
    have H1 : (some (⟨#[]⟩ : ByteArray)) = some r := by rw [if_neg (show ¬ (false = true) by decide)] at H; exact H
    clear H
    have H := H1
    clear H1
    obtain rfl := Option.some.inj H
    go_enter Try.func106, Try.ntmps106
    go_wp2_with (first | ((with_reducible refine gate_callee (f := 128) rfl ?_); refine goesL_ (some 6) rfl rfl Try.func128 (by kernel_rfl) rfl #[.string a0, .int .i64 2000] rfl (by (try simp only [List.map_toArray, List.map_cons, List.map_nil]); first | done | rfl | (simp only [List.length_drop, List.length_take]; rfl)) ?_; (with_reducible refine (spec_l1okBits.calls k a0 2000 false _ A2.out).mono ?_); rintro e w' ⟨rfl, ⟨nd, rfl⟩⟩; refine ⟨_, rfl, ?_⟩))
    go_ret
    exact ⟨by first | rfl | (simp [errW_none, errW_some] <;> rfl) | (simp [*, errW_none, errW_some] <;> rfl), by repeat (first | (with_reducible first | exact HB.out | apply below_alloc | apply pw_below_drewN | apply below_drew1) | exact HB.out)⟩

end Go.Proofs.Ytdoclpgciadjaaa.P
