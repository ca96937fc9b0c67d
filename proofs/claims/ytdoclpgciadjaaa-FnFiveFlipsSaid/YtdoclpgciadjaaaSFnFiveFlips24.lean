/- Texts of the proof of FnFiveFlips, joined. -/
import Derived.Test.YtdoclpgciadjaaaSFnFiveFlips23
import Derived.Test.YtdoclpgciadjaaaSFnFiveFlips21
import Derived.Deep.QuietTactic
import Derived.BigQuiet
import Derived.Test.YtdoclpgciadjaaaSFnFiveFlips9
import Derived.StillTailTactics
import Derived.Deep.RegionWith
namespace Go.Proofs.Ytdoclpgciadjaaa.P
open Go Go.RowKit Go.Proofs.YtdoclpgciadjaaaW.PrintWords
set_option linter.unusedVariables false
theorem specValid_ev (e : Bool) (i : Int) (r : Bool) (d : Int) (l : List Int) : Ev (fun k => spec_ValidFrame.f k e i r d l) (validF e i r d l.length):=by
 have hd : ∀ a b c,spec_l1dataLen.f a b r c l = some (dataB r c):=by
  intro a b c
  unfold spec_l1dataLen.f dataB
  cases r
  ·rw [if_neg (show ¬ (false = true) by decide),if_neg (show ¬ (false = true) by decide)]
   by_cases h : c > 8
   ·rw [if_pos h,if_pos (show 8 < c from h)]
   ·rw [if_neg h,if_neg (show ¬ 8 < c from h)]
  ·rfl
 have h1 : ∀ b,Ev (fun k => spec_ValidFrame.j1 k b e i r d l) (!b && (decide (0 ≤ d) && (decide (d ≤ 15) && ((l.length : Int) == dataB r d)))):=by
  intro b
  refine Ev.step (f:=fun _ => some (!b && (decide (0 ≤ d) && (decide (d ≤ 15) && ((l.length : Int) == dataB r d))))) (fun k => ?_) (Ev.now _)
  simp only [spec_ValidFrame.j1]
  cases b
  ·rw [if_neg (by decide)]
   by_cases c1 : d < 0
   ·rw [if_pos c1,decide_eq_false (by omega)];rfl
   ·rw [if_neg c1,decide_eq_true (show 0 ≤ d by omega)]
    by_cases c2 : d > 15
    ·rw [if_pos c2,decide_eq_false (by omega)];rfl
    ·rw [if_neg c2,decide_eq_true (show d ≤ 15 by omega),hd,Option.bind_some];simp
  ·rfl
 have h0 : ∀ b,Ev (fun k => spec_ValidFrame.j0 k b e i r d l) (!b && ((e || decide (i < 2048)) && (decide (0 ≤ d) && (decide (d ≤ 15) && ((l.length : Int) == dataB r d))))):=by
  intro b
  cases b
  ·cases e
   ·refine Ev.step (fun k => ?_) (g:=fun k => spec_ValidFrame.j0 k false false i r d l) (f:=fun k => spec_ValidFrame.j1 k (decide (i ≥ 2048)) false i r d l) ?_
    ·simp only [spec_ValidFrame.j0]
     rw [if_neg (by decide),if_neg (by decide)]
    ·have:=h1 (decide (i ≥ 2048))
     have e1 : (!decide (i ≥ 2048)) = decide (i < 2048):=by
      by_cases c : i < 2048
      ·rw [decide_eq_true c,decide_eq_false (by omega)];rfl
      ·rw [decide_eq_false c,decide_eq_true (by omega)];rfl
     rw [e1] at this
     exact this
   ·refine Ev.step (fun k => ?_) (g:=fun k => spec_ValidFrame.j0 k false true i r d l) (f:=fun k => spec_ValidFrame.j1 k false true i r d l) (h1 false)
    simp only [spec_ValidFrame.j0]
    rw [if_neg (by decide),if_pos trivial]
  ·refine Ev.step (f:=fun _ => some false) (fun k => ?_) (Ev.now _)
   simp only [spec_ValidFrame.j0]
   rfl
 cases e
 ·refine Ev.congr (f:=fun k => spec_ValidFrame.j0 k false false i r d l) (fun k => ?_) (h0 false)
  unfold spec_ValidFrame.f
  rw [if_neg (by decide)]
 ·refine Ev.congr (f:=fun k => spec_ValidFrame.j0 k (decide (i ≥ 536870912)) true i r d l) (fun k => ?_) ?_
  ·unfold spec_ValidFrame.f
   rw [if_pos rfl]
  ·have:=h0 (decide (i ≥ 536870912))
   have e1 : (!decide (i ≥ 536870912)) = decide (i < 536870912):=by
    by_cases c : i < 536870912
    ·rw [decide_eq_true c,decide_eq_false (by omega)];rfl
    ·rw [decide_eq_false c,decide_eq_true (by omega)];rfl
   rw [e1,Bool.true_or,Bool.true_and] at this
   exact this
end Go.Proofs.Ytdoclpgciadjaaa.P

namespace Go.Proofs.Ytdoclpgciadjaaa.P
open Go Go.RowKit Go.Proofs.YtdoclpgciadjaaaW.PrintWords
set_option linter.unusedVariables false
theorem l1num_ev (n : Nat) : ∀ (u : Nat),u < 4294967296 → n ≤ 64 → Ev (fun k => spec_l1num.f k (u : Int) (n : Int)) (strOfNums (numL u n)):=by
 induction n with
 | zero =>
  intro u hu hn
  refine Ev.step (f:=fun _ => some (⟨#[]⟩ : ByteArray)) (fun k => ?_) (Ev.now _)
  simp only [spec_l1num.f]
  rw [if_pos (by omega)]
 | succ n ih =>
  intro u hu hn
  have ih':=ih (u / 2) (by omega) (by omega)
  have e1 : wrap64 (Int.tdiv (u : Int) 2) = ((u / 2 : Nat) : Int):=by
   rw [Int.tdiv_eq_ediv_of_nonneg (by omega)];unfold wrap64;omega
  have e2 : wrap64 (((n + 1 : Nat) : Int) - 1) = (n : Int):=by unfold wrap64;omega
  have e3 : Int.tmod (u : Int) 2 = ((u % 2 : Nat) : Int):=by rw [Int.tmod_eq_emod_of_nonneg (by omega)];omega
  have hsz : (strOfNums (numL (u / 2) n)).size + 1 ≤ 9223372036854775807:=by rw [strOfNums_size,numL_length];omega
  by_cases c : u % 2 = 1
  ·refine Ev.step (f:=fun k => (spec_l1num.f k ((u / 2 : Nat) : Int) (n : Int)).bind fun t => if t.size + 1 ≤ 9223372036854775807 then some (t ++ (⟨#[49]⟩ : ByteArray)) else none) (fun k => ?_) (Ev.bind ih' (ev_pos hsz ?_))
   ·simp only [spec_l1num.f]
    rw [if_neg (by omega),e3,if_pos (by omega),e1,e2]
   ·rw [numL_snoc,c,str_append];exact Ev.now _
  ·refine Ev.step (f:=fun k => (spec_l1num.f k ((u / 2 : Nat) : Int) (n : Int)).bind fun t => if t.size + 1 ≤ 9223372036854775807 then some (t ++ (⟨#[48]⟩ : ByteArray)) else none) (fun k => ?_) (Ev.bind ih' (ev_pos hsz ?_))
   ·simp only [spec_l1num.f]
    rw [if_neg (by omega),e3,if_neg (by omega),e1,e2]
   ·rw [numL_snoc,show u % 2 = 0 by omega,str_append];exact Ev.now _
theorem l1flag_eq (b : Bool) : spec_l1flag.f b = some (strOfNums (flagL b)):=by cases b <;> rfl
end Go.Proofs.Ytdoclpgciadjaaa.P

namespace Go.Proofs.Ytdoclpgciadjaaa.P
open Go.RowKit Go.Proofs.YtdoclpgciadjaaaW.PrintWords Go.Proofs.YtdoclpgciadjaaaW.PrintLast Go.Proofs.YtdoclpgciadjaaaW.PrintMore
set_option linter.unusedVariables false
set_option linter.unusedSimpArgs false
def spec_Body.f (a0_0 : Bool) (a0_1 : Int) (a0_2 : Bool) (a0_3 : Int) (l0_4 : List Int) : Option (ByteArray):=if 0 ≤ a0_1 ∧ okBytes l0_4 = true then some (bodyV a0_0 a0_1 a0_2 a0_3 l0_4) else none
theorem spec_l1num.at (x y : Int) (u n : Nat) (w : World) (hx : x = (u : Int)) (hu : u < 4294967296) (hy : y = (n : Int)) (hn : n ≤ 64) :
  Calls Try.prog 79 #[.int .i64 x, .int .i64 y] w fun e w' => e = .returned (.string (strOfNums (numL u n))) ∧ ∃ m,w' = w.drewN m:=by
 subst hx hy
 obtain ⟨k,hk⟩:=(l1num_ev n u hu hn).rounds
 exact (spec_l1num.calls k _ _ _ w hk).mono fun e w' ⟨he,hd⟩ => ⟨he,hd.out⟩
theorem spec_l1flag.at (b : Bool) (w : World) :
  Calls Try.prog 80 #[.bool b] w fun e w' => e = .returned (.string (strOfNums (flagL b))) ∧ ∃ m,w' = w.drewN m :=
 (spec_l1flag.calls b _ w (l1flag_eq b)).mono fun e w' ⟨he,hd⟩ => ⟨he,hd.out⟩
theorem spec_ValidFrame.at (ext : Bool) (id : Int) (rtr : Bool) (dlc : Int) (A : Option Addr) (c : Nat) (l : List Int) (w : World) (hr : Kd.C (Kd.int .u8) w A l.length l) (hc : l.length ≤ c) (b : Bool) (hv : validF ext id rtr dlc l.length = b) :
  Calls Try.prog 14 #[.agg #[.bool ext, .int .u32 id, .bool rtr, .int .i64 dlc, .slice A l.length c]] w fun e w' => e = .returned (.bool b) ∧ Below w.heap.size w w':=by
 subst hv
 obtain ⟨k,hk⟩:=(specValid_ev ext id rtr dlc l).rounds
 exact spec_ValidFrame.calls k ext id rtr dlc A c l _ w hr hc hk
theorem below_drewN {B : Nat} {a w : World} (h : Below B a w) (n : Nat) : Below B a (w.drewN n):=⟨h.os,h.tape,h.output,h.size,h.block⟩
theorem str0 : (⟨#[48]⟩ : ByteArray) = strOfNums [48]:=rfl
theorem str1 : (⟨#[49]⟩ : ByteArray) = strOfNums [49]:=rfl
theorem str00 : (⟨#[48,48]⟩ : ByteArray) = strOfNums [48,48]:=rfl
theorem text_base (id : Int) (rtr : Bool) : (⟨#[48]⟩ : ByteArray) ++ strOfNums (numL id.toNat 11) ++ strOfNums (flagL rtr) ++ ⟨#[48]⟩ ++ ⟨#[48]⟩ = strOfNums (headL false id rtr):=by
 rw [str0, ← str_append, ← str_append, ← str_append, ← str_append]
 congr 1
theorem text_ext29 (id : Int) (rtr : Bool) : (⟨#[48]⟩ : ByteArray) ++ strOfNums (numL (id.toNat / 262144) 11) ++ ⟨#[49]⟩ ++ ⟨#[49]⟩ ++ strOfNums (numL id.toNat 18) ++ strOfNums (flagL rtr) ++ ⟨#[48,48]⟩ = strOfNums (headL true id rtr):=by
 rw [str0,str1,str00, ← str_append, ← str_append, ← str_append, ← str_append, ← str_append, ← str_append]
 congr 1
theorem num29 (u : Nat) : numL u 29 = numL (u / 262144) 11 ++ numL u 18:=numL_add u 11 18
theorem text_left (u : Nat) : (strOfNums (numL u 29)).extract 0 11 = strOfNums (numL (u / 262144) 11):=by
 rw [num29]
 have:=str_extract_left (numL (u / 262144) 11) (numL u 18)
 rw [numL_length] at this
 exact this
theorem text_right (u : Nat) : (strOfNums (numL u 29)).extract 11 29 = strOfNums (numL u 18):=by
 have h:=str_extract_right (numL (u / 262144) 11) (numL u 18)
 rw [← num29,numL_length,strOfNums_size,numL_length] at h
 exact h
set_option maxHeartbeats 4000000 in
theorem spec_Body.yes (ext : Bool) (id : Int) (rtr : Bool) (dlc : Int) (A : Option Addr) (c : Nat) (l : List Int) (w : World) (hr : Kd.C (Kd.int .u8) w A l.length l) (hc : l.length ≤ c) (h0 : 0 ≤ id) (hb : okBytes l = true) (hv : validF ext id rtr dlc l.length = true) :
  Calls Try.prog 18 #[.agg #[.bool ext, .int .u32 id, .bool rtr, .int .i64 dlc, .slice A l.length c]] w fun e w' => e = .returned (.string (strOfNums (bodyL ext id rtr dlc l))) ∧ Below w.heap.size w w':=by
 obtain ⟨hid,hd0,hd1, -,hn8⟩:=valid_parts hv
 have HV:=Lib.hid hv
 have HR:=Lib.hid hr
 have HC:=Lib.hid hc
 have HOB:=Lib.hid hb
 have hid2 : id < 536870912:=by unfold vtop at hid;split at hid <;> omega
 have HID : Hid (ext = false → id < 2048):=Lib.hid (fun e => by rw [e] at hid;exact hid)
 have HU : Hid (id = (id.toNat : Int)):=Lib.hid (by omega)
 have HD : Hid (dlc = (dlc.toNat : Int)):=Lib.hid (by omega)
 have HL : Hid (l.length ≤ 8):=Lib.hid hn8
 have HM8 : Hid (l.length ≤ 9223372036854775807):=Lib.hid hr.2.1
 clear hv hr hc hb hid hn8
 cases ext
 ·go_enter Try.func18,Try.ntmps18
  go_wp2_with (fail)
  (refine (spec_ValidFrame.at false id rtr dlc A c l _ (Kd.C_below HR.out ((Below.refl _ _).alloc (Nat.le_refl _) _)) HC.out true HV.out).mono ?_;rintro e w1 ⟨rfl,hb1⟩;have HB1 : Hid (Below w.heap.size w w1):=Lib.hid (Below.trans ((Below.refl _ _).alloc (Nat.le_refl _) _) (hb1.mono (by simp)));have HBOX:=Lib.hid (blk_below (blk_new w _) hb1);clear hb1;have hc0:=blk_cell HBOX.out 0;have hc1:=blk_cell HBOX.out 1;have hc2:=blk_cell HBOX.out 2;have hc3:=blk_cell HBOX.out 3;have hc4:=blk_cell HBOX.out 4;simp only [box5_0,box5_1,box5_2,box5_3,box5_4] at hc0 hc1 hc2 hc3 hc4)
  go_wp2_with (fail)
  have hw : IntKind.i64.wrap id = id:=by rw [IntKind.wrap_i64];omega
  have hs1 : (strOfNums (numL id.toNat 11)).size = 11:=by rw [strOfNums_size,numL_length]
  have hs2 : (strOfNums (flagL rtr)).size = 1:=by rw [strOfNums_size];rfl
  go_quiet ((first | (go_at_call 79;exact Calls.quiet_of (spec_l1num.at _ 11 id.toNat 11 _ HU.out (by omega) rfl (by omega))) | (go_at_call 80;exact Calls.quiet_of (spec_l1flag.at _ _))))
  go_wp2_with (fail)
  rw [text_base]
  (refine (spec_l1num.at dlc 4 dlc.toNat 4 _ HD.out (by omega) rfl (by omega)).mono ?_;rintro e w2 ⟨rfl,m2,rfl⟩)
  have HS1 : (strOfNums (headL false id rtr)).size ≤ 35:=by rw [strOfNums_size];exact headL_length _ _ _
  have HS2 : (strOfNums (numL dlc.toNat 4)).size = 4:=by rw [strOfNums_size,numL_length]
  go_wp2_with (fail)
  have HBL:=below_drewN HB1.out
  have HBX:=HBOX.out
  clear hc0 hc1 hc2 hc3 hc4 HBOX
  go_loopw [5,3] (fun v5 v3 wr => ∃ (i : Nat),i ≤ l.length ∧ v5 = .int .i64 i ∧ v3 = .string (strOfNums (headL false id rtr ++ (numL dlc.toNat 4 ++ dataL (l.take i)))) ∧ Aside0 (Below w.heap.size w wr) ∧ Aside0 (wr.heap[w.heap.size]? = some (.cells #[.bool false, .int .u32 id, .bool rtr, .int .i64 dlc, .slice A l.length c] 25 (0,0)))) (fun v5 _ _ => l.length - (intOf v5).toNat)
  case atStart => exact ⟨0,Nat.zero_le _,rfl,by rw [← str_append,List.take_zero];simp [dataL],⟨HBL _⟩,⟨HBX⟩⟩
  case round =>
   obtain ⟨i,hi,rfl,rfl,HB,HBOX⟩:=hrel
   have hc0:=blk_cell HBOX.out 0;have hc1:=blk_cell HBOX.out 1;have hc2:=blk_cell HBOX.out 2;have hc3:=blk_cell HBOX.out 3;have hc4:=blk_cell HBOX.out 4;simp only [box5_0,box5_1,box5_2,box5_3,box5_4] at hc0 hc1 hc2 hc3 hc4
   have hsz : (strOfNums (headL false id rtr ++ (numL dlc.toNat 4 ++ dataL (l.take i)))).size ≤ 103:=by
    have h1:=headL_length false id rtr;have h2:=dataL_length (l.take i);have h3:=HL.out;rw [strOfNums_size];simp [numL_length] at h1 h2 ⊢;omega
   by_cases hlt : i < l.length
   ·obtain ⟨ad,ea,hcell⟩:=Kd.at_int (Kd.C_below HR.out HB.out) (i : Int) (by omega) (by omega)
    subst ea
    have HBY:=Lib.hid (okBytes_at HOB.out i hlt)
    have HX : Hid (rd l (i : Int) = ((rd l (i : Int)).toNat : Int)):=Lib.hid (by have:=HBY.out;omega)
    rw [HX.out,Int.toNat_natCast] at hcell
    generalize hxx : (rd l (i : Int)).toNat = x at hcell
    have HXX : Hid (x = (rd l (i : Int)).toNat ∧ x < 256):=Lib.hid ⟨hxx.symm,by have:=HBY.out;omega⟩
    have hx256 : x < 256:=HXX.out.2
    have hm8:=HM8.out
    clear hxx
    go_wp2_with (fail)
    (refine (spec_l1num.at (x : Int) 8 x 8 _ rfl (by omega) rfl (by omega)).mono ?_;rintro e w3 ⟨rfl,m3,rfl⟩)
    have HS3 : (strOfNums (numL x 8)).size = 8:=by rw [strOfNums_size,numL_length]
    go_wp2_with (fail)
    go_roundw
    case rel => exact ⟨i + 1,hlt,by go_num,by rw [← str_append,take_next l i hlt,dataL_snoc,HXX.out.1];simp only [List.append_assoc],⟨below_drewN HB.out _⟩,⟨HBOX.out⟩⟩
    case measure => simp [intOf];omega
   ·obtain rfl : i = l.length:=by omega
    go_wp2_with (fail)
    go_ret
    exact ⟨by rw [List.take_length];unfold bodyL;rw [List.append_assoc];rfl,HB.out⟩
 ·go_enter Try.func18,Try.ntmps18
  go_wp2_with (fail)
  (refine (spec_ValidFrame.at true id rtr dlc A c l _ (Kd.C_below HR.out ((Below.refl _ _).alloc (Nat.le_refl _) _)) HC.out true HV.out).mono ?_;rintro e w1 ⟨rfl,hb1⟩;have HB1 : Hid (Below w.heap.size w w1):=Lib.hid (Below.trans ((Below.refl _ _).alloc (Nat.le_refl _) _) (hb1.mono (by simp)));have HBOX:=Lib.hid (blk_below (blk_new w _) hb1);clear hb1;have hc0:=blk_cell HBOX.out 0;have hc1:=blk_cell HBOX.out 1;have hc2:=blk_cell HBOX.out 2;have hc3:=blk_cell HBOX.out 3;have hc4:=blk_cell HBOX.out 4;simp only [box5_0,box5_1,box5_2,box5_3,box5_4] at hc0 hc1 hc2 hc3 hc4)
  go_wp2_with (fail)
  have hw : IntKind.i64.wrap id = id:=by rw [IntKind.wrap_i64];omega
  (refine (spec_l1num.at id 29 id.toNat 29 _ HU.out (by omega) rfl (by omega)).mono ?_;rintro e wn ⟨rfl,mn,rfl⟩)
  have hs2 : (strOfNums (flagL rtr)).size = 1:=by rw [strOfNums_size];rfl
  have hs3 : (strOfNums (numL id.toNat 29)).size = 29:=by rw [strOfNums_size,numL_length]
  have hs4 : (strOfNums (numL (id.toNat / 262144) 11)).size = 11:=by rw [strOfNums_size,numL_length]
  have hs5 : (strOfNums (numL id.toNat 18)).size = 18:=by rw [strOfNums_size,numL_length]
  have hx1 : (strOfNums (numL id.toNat 29)).extract 0 11 = strOfNums (numL (id.toNat / 262144) 11):=text_left id.toNat
  have hx2 : (strOfNums (numL id.toNat 29)).extract 11 29 = strOfNums (numL id.toNat 18):=text_right id.toNat
  go_wp2_with (fail)
  obtain ⟨W,hW⟩ : ∃ W,W = w1.drewN mn:=⟨_,rfl⟩
  rw [← hW]
  (have HBX : Hid (W.heap[w.heap.size]? = some (.cells #[.bool true, .int .u32 id, .bool rtr, .int .i64 dlc, .slice A l.length c] 25 (0,0))):=Lib.hid (by rw [hW];exact HBOX.out);have HBW : Hid (Below w.heap.size w W):=Lib.hid (by rw [hW];exact below_drewN HB1.out _);clear hc0 hc1 hc2 hc3 hc4 hW HBOX HB1;have HBOX:=HBX;have HB1:=HBW;clear HBX HBW;have hc0:=blk_cell HBOX.out 0;have hc1:=blk_cell HBOX.out 1;have hc2:=blk_cell HBOX.out 2;have hc3:=blk_cell HBOX.out 3;have hc4:=blk_cell HBOX.out 4;simp only [box5_0,box5_1,box5_2,box5_3,box5_4] at hc0 hc1 hc2 hc3 hc4)
  go_quiet ((first | (go_at_call 80;exact Calls.quiet_of (spec_l1flag.at _ _))))
  go_wp2_with (fail)
  rw [text_ext29]
  (refine (spec_l1num.at dlc 4 dlc.toNat 4 _ HD.out (by omega) rfl (by omega)).mono ?_;rintro e w2 ⟨rfl,m2,rfl⟩)
  have HS1 : (strOfNums (headL true id rtr)).size ≤ 35:=by rw [strOfNums_size];exact headL_length _ _ _
  have HS2 : (strOfNums (numL dlc.toNat 4)).size = 4:=by rw [strOfNums_size,numL_length]
  go_wp2_with (fail)
  have HBL:=below_drewN HB1.out
  have HBX:=HBOX.out
  clear hc0 hc1 hc2 hc3 hc4 HBOX
  go_loopw [5,3] (fun v5 v3 wr => ∃ (i : Nat),i ≤ l.length ∧ v5 = .int .i64 i ∧ v3 = .string (strOfNums (headL true id rtr ++ (numL dlc.toNat 4 ++ dataL (l.take i)))) ∧ Aside0 (Below w.heap.size w wr) ∧ Aside0 (wr.heap[w.heap.size]? = some (.cells #[.bool true, .int .u32 id, .bool rtr, .int .i64 dlc, .slice A l.length c] 25 (0,0)))) (fun v5 _ _ => l.length - (intOf v5).toNat)
  case atStart => exact ⟨0,Nat.zero_le _,rfl,by rw [← str_append,List.take_zero];simp [dataL],⟨HBL _⟩,⟨HBX⟩⟩
  case round =>
   obtain ⟨i,hi,rfl,rfl,HB,HBOX⟩:=hrel
   have hc0:=blk_cell HBOX.out 0;have hc1:=blk_cell HBOX.out 1;have hc2:=blk_cell HBOX.out 2;have hc3:=blk_cell HBOX.out 3;have hc4:=blk_cell HBOX.out 4;simp only [box5_0,box5_1,box5_2,box5_3,box5_4] at hc0 hc1 hc2 hc3 hc4
   have hsz : (strOfNums (headL true id rtr ++ (numL dlc.toNat 4 ++ dataL (l.take i)))).size ≤ 103:=by
    have h1:=headL_length true id rtr;have h2:=dataL_length (l.take i);have h3:=HL.out;rw [strOfNums_size];simp [numL_length] at h1 h2 ⊢;omega
   by_cases hlt : i < l.length
   ·obtain ⟨ad,ea,hcell⟩:=Kd.at_int (Kd.C_below HR.out HB.out) (i : Int) (by omega) (by omega)
    subst ea
    have HBY:=Lib.hid (okBytes_at HOB.out i hlt)
    have HX : Hid (rd l (i : Int) = ((rd l (i : Int)).toNat : Int)):=Lib.hid (by have:=HBY.out;omega)
    rw [HX.out,Int.toNat_natCast] at hcell
    generalize hxx : (rd l (i : Int)).toNat = x at hcell
    have HXX : Hid (x = (rd l (i : Int)).toNat ∧ x < 256):=Lib.hid ⟨hxx.symm,by have:=HBY.out;omega⟩
    have hx256 : x < 256:=HXX.out.2
    have hm8:=HM8.out
    clear hxx
    go_wp2_with (fail)
    (refine (spec_l1num.at (x : Int) 8 x 8 _ rfl (by omega) rfl (by omega)).mono ?_;rintro e w3 ⟨rfl,m3,rfl⟩)
    have HS3 : (strOfNums (numL x 8)).size = 8:=by rw [strOfNums_size,numL_length]
    go_wp2_with (fail)
    go_roundw
    case rel => exact ⟨i + 1,hlt,by go_num,by rw [← str_append,take_next l i hlt,dataL_snoc,HXX.out.1];simp only [List.append_assoc],⟨below_drewN HB.out _⟩,⟨HBOX.out⟩⟩
    case measure => simp [intOf];omega
   ·obtain rfl : i = l.length:=by omega
    go_wp2_with (fail)
    go_ret
    exact ⟨by rw [List.take_length];unfold bodyL;rw [List.append_assoc];rfl,HB.out⟩
theorem spec_Body.calls (a0_0 : Bool) (a0_1 : Int) (a0_2 : Bool) (a0_3 : Int) (A0_4 : Option Addr) (c0_4 : Nat) (l0_4 : List Int) (r : ByteArray) (w : World) (hr0_4 : Kd.C (Kd.int .u8) w A0_4 l0_4.length l0_4) (hc0_4 : l0_4.length ≤ c0_4) (h : spec_Body.f a0_0 a0_1 a0_2 a0_3 l0_4 = some r) :
  Calls Try.prog 18 #[.agg #[.bool a0_0, .int .u32 a0_1, .bool a0_2, .int .i64 a0_3, .slice A0_4 l0_4.length c0_4]] w fun e w' => e = .returned (.string r) ∧ Below w.heap.size w w':=by
 unfold spec_Body.f at h
 by_cases c : 0 ≤ a0_1 ∧ okBytes l0_4 = true
 ·rw [if_pos c] at h
  have hr:=(Option.some.inj h).symm
  unfold bodyV at hr
  cases hv : validF a0_0 a0_1 a0_2 a0_3 l0_4.length with
  | true =>
   rw [hv,if_pos rfl] at hr
   subst hr
   exact spec_Body.yes a0_0 a0_1 a0_2 a0_3 A0_4 c0_4 l0_4 w hr0_4 hc0_4 c.1 c.2 hv
  | false =>
   rw [hv] at hr
   subst hr
   have HV:=Lib.hid hv
   have HR:=Lib.hid hr0_4
   have HC:=Lib.hid hc0_4
   have HM8 : Hid (l0_4.length ≤ 9223372036854775807):=Lib.hid hr0_4.2.1
   clear hr0_4 hc0_4 hv c h
   go_enter Try.func18,Try.ntmps18
   go_wp2_with (fail)
   (refine (spec_ValidFrame.at a0_0 a0_1 a0_2 a0_3 A0_4 c0_4 l0_4 _ (Kd.C_below HR.out ((Below.refl _ _).alloc (Nat.le_refl _) _)) HC.out false HV.out).mono ?_;rintro e w1 ⟨rfl,hb1⟩;have HB1 : Hid (Below w.heap.size w w1):=Lib.hid (Below.trans ((Below.refl _ _).alloc (Nat.le_refl _) _) (hb1.mono (by simp)));clear hb1)
   go_wp2_with (fail)
   go_ret
   exact ⟨rfl,HB1.out⟩
 ·rw [if_neg c] at h
  cases h
end Go.Proofs.Ytdoclpgciadjaaa.P

namespace Go.Proofs.Ytdoclpgciadjaaa.P
open Go Go.RowKit Go.Proofs.YtdoclpgciadjaaaW.PrintWords
set_option linter.unusedVariables false
structure Tch (w w' : World) (S : Nat → Prop) : Prop where
 os : w'.os = w.os
 tape : w'.tape = w.tape
 output : w'.output = w.output
 kept : Kept w w' S
theorem Tch.refl (w : World) (S : Nat → Prop) : Tch w w S:=⟨rfl,rfl,rfl,Kept.refl w S⟩
theorem Tch.size {w w' : World} {S : Nat → Prop} (h : Tch w w' S) : w.heap.size ≤ w'.heap.size:=h.kept.1
theorem Tch.block {w w' : World} {S : Nat → Prop} (h : Tch w w' S) {k : Nat} (hk : k < w.heap.size) (hn : ¬ S k) : w'.heap[k]? = w.heap[k]?:=h.kept.2 k hk hn
theorem Tch.mono {w w' : World} {S S' : Nat → Prop} (h : Tch w w' S) (hs : ∀ k,S k → S' k) : Tch w w' S':=⟨h.os,h.tape,h.output,h.kept.mono hs⟩
theorem Tch.then_ {w w1 w2 : World} {S S2 : Nat → Prop} (h : Tch w w1 S) (k : Tch w1 w2 S2) (hs : ∀ k,S2 k → S k ∨ w.heap.size ≤ k) : Tch w w2 S:=⟨k.os.trans h.os,k.tape.trans h.tape,k.output.trans h.output,h.kept.then_ k.kept hs⟩
theorem Tch.trans {w w1 w2 : World} {S : Nat → Prop} (h : Tch w w1 S) (k : Tch w1 w2 S) : Tch w w2 S:=h.then_ k fun _ h => .inl h
theorem Tch.drewN {w w1 : World} {S : Nat → Prop} (h : Tch w w1 S) (m : Nat) : Tch w (w1.drewN m) S:=⟨h.os,h.tape,h.output,h.kept.drewN m⟩
theorem Tch.drew {w w1 : World} {S : Nat → Prop} (h : Tch w w1 S) : Tch w w1.drew S:=⟨h.os,h.tape,h.output,h.kept.drew⟩
theorem Tch.alloc {w w1 : World} {S : Nat → Prop} (h : Tch w w1 S) (o : Obj) : Tch w (w1.alloc o) S:=⟨h.os,h.tape,h.output,h.kept.alloc o⟩
theorem Tch.setCell {w w1 : World} {S : Nat → Prop} (h : Tch w w1 S) {p : Addr} (hp : S p.block ∨ w.heap.size ≤ p.block) (u : Value) : Tch w (w1.setCell p u) S:=⟨h.os,h.tape,h.output,h.kept.setCell hp u⟩
theorem Tch.belowR {w w1 w2 : World} {S : Nat → Prop} (h : Tch w w1 S) (hb : Below w1.heap.size w1 w2) : Tch w w2 S:=⟨hb.os.trans h.os,hb.tape.trans h.tape,hb.output.trans h.output,h.kept.below hb⟩
theorem Tch.of_below {w w1 : World} (S : Nat → Prop) (hb : Below w.heap.size w w1) : Tch w w1 S:=(Tch.refl w S).belowR hb
theorem Tch.grown {w w1 w2 : World} {S : Nat → Prop} {row : Option Nat} (h : Tch w w1 S) (hg : w1.grownBy w2 row) (hr : ∀ k,row = some k → S k ∨ w.heap.size ≤ k) : Tch w w2 S:=⟨hg.os.trans h.os,hg.tape.trans h.tape,hg.output.trans h.output,Kept.of_grown hg h.kept hr⟩
theorem Tch.below {w0 w w' : World} {S : Nat → Prop} {B : Nat} (h : Tch w w' S) (hb : Below B w0 w) (hB : B ≤ w.heap.size) (hs : ∀ k,S k → B ≤ k) : Below B w0 w' :=
 hb.trans ⟨h.os,h.tape,h.output,h.size,fun k hk => h.block (by omega) (fun e => by have:=hs k e;omega)⟩
theorem Tch.R {α : Type} {d : Kd α} {e : Nat} {w w' : World} {S : Nat → Prop} {base : Nat} {ok : Nat → Prop} {v : Value} {xs : List α} (h : Tch w w' S) (hr : d.R e w base ok v xs) (hne : ∀ k,ok k → ¬ S k) : d.R e w' base ok v xs:=Kd.R_kept hr h.kept hne
theorem Tch.one {w w1 : World} {p : Nat} (h : Tch w w1 (fun k => k = p)) (j : Nat) (u : Value) : Tch w (w1.setCell ⟨p,j,none⟩ u) (fun k => k = p):=Tch.setCell (p:=⟨p,j,none⟩) h (.inl rfl) u
theorem Tch.refl1 (w : World) (p : Nat) : Tch w w (fun k => k = p):=Tch.refl w _
end Go.Proofs.Ytdoclpgciadjaaa.P

namespace Go.Proofs.Ytdoclpgciadjaaa.P
open Go Go.RowKit Go.Proofs.YtdoclpgciadjaaaW.PrintWords
set_option linter.unusedVariables false
structure WS where
 code : Int
 field : Int
 left : Int
 run : Int
 level : Int
 sum : Int
 got : Int
 ext : Bool
 id : Int
 rtr : Bool
 dlc : Int
 data : List Int
def cellsW (s : WS) (v : Value) : Array Value := #[.int .i64 s.code, .int .i64 s.field, .int .i64 s.left, .int .i64 s.run, .int .i32 s.level, .int .i64 s.sum, .int .i64 s.got, .bool s.ext, .int .u32 s.id, .bool s.rtr, .int .i64 s.dlc,v]
def objW (s : WS) (v : Value) : Obj := .cells (cellsW s v) 116 (0,0)
section
variable {w : World} {p : Nat} {s : WS} {v : Value} (h : w.heap[p]? = some (objW s v))
include h
theorem cW0 : w.cell? ⟨p,0,none⟩ = some (.int .i64 s.code):=blk_cell h 0
theorem cW1 : w.cell? ⟨p,1,none⟩ = some (.int .i64 s.field):=blk_cell h 1
theorem cW2 : w.cell? ⟨p,2,none⟩ = some (.int .i64 s.left):=blk_cell h 2
theorem cW3 : w.cell? ⟨p,3,none⟩ = some (.int .i64 s.run):=blk_cell h 3
theorem cW4 : w.cell? ⟨p,4,none⟩ = some (.int .i32 s.level):=blk_cell h 4
theorem cW5 : w.cell? ⟨p,5,none⟩ = some (.int .i64 s.sum):=blk_cell h 5
theorem cW6 : w.cell? ⟨p,6,none⟩ = some (.int .i64 s.got):=blk_cell h 6
theorem cW7 : w.cell? ⟨p,7,none⟩ = some (.bool s.ext):=blk_cell h 7
theorem cW8 : w.cell? ⟨p,8,none⟩ = some (.int .u32 s.id):=blk_cell h 8
theorem cW9 : w.cell? ⟨p,9,none⟩ = some (.bool s.rtr):=blk_cell h 9
theorem cW10 : w.cell? ⟨p,10,none⟩ = some (.int .i64 s.dlc):=blk_cell h 10
theorem cW11 : w.cell? ⟨p,11,none⟩ = some v:=blk_cell h 11
theorem fW (j : Nat) : w.frozen? ⟨p,j,none⟩ = false:=blk_frozen h j
theorem setW0 (x : Int) : (w.setCell ⟨p,0,none⟩ (.int .i64 x)).heap[p]? = some (objW { s with code:=x } v):=by simp only [World.setCell,Array.getElem?_modify,h];rfl
theorem setW1 (x : Int) : (w.setCell ⟨p,1,none⟩ (.int .i64 x)).heap[p]? = some (objW { s with field:=x } v):=by simp only [World.setCell,Array.getElem?_modify,h];rfl
theorem setW2 (x : Int) : (w.setCell ⟨p,2,none⟩ (.int .i64 x)).heap[p]? = some (objW { s with left:=x } v):=by simp only [World.setCell,Array.getElem?_modify,h];rfl
theorem setW3 (x : Int) : (w.setCell ⟨p,3,none⟩ (.int .i64 x)).heap[p]? = some (objW { s with run:=x } v):=by simp only [World.setCell,Array.getElem?_modify,h];rfl
theorem setW4 (x : Int) : (w.setCell ⟨p,4,none⟩ (.int .i32 x)).heap[p]? = some (objW { s with level:=x } v):=by simp only [World.setCell,Array.getElem?_modify,h];rfl
theorem setW5 (x : Int) : (w.setCell ⟨p,5,none⟩ (.int .i64 x)).heap[p]? = some (objW { s with sum:=x } v):=by simp only [World.setCell,Array.getElem?_modify,h];rfl
theorem setW6 (x : Int) : (w.setCell ⟨p,6,none⟩ (.int .i64 x)).heap[p]? = some (objW { s with got:=x } v):=by simp only [World.setCell,Array.getElem?_modify,h];rfl
theorem setW7 (x : Bool) : (w.setCell ⟨p,7,none⟩ (.bool x)).heap[p]? = some (objW { s with ext:=x } v):=by simp only [World.setCell,Array.getElem?_modify,h];rfl
theorem setW8 (x : Int) : (w.setCell ⟨p,8,none⟩ (.int .u32 x)).heap[p]? = some (objW { s with id:=x } v):=by simp only [World.setCell,Array.getElem?_modify,h];rfl
theorem setW9 (x : Bool) : (w.setCell ⟨p,9,none⟩ (.bool x)).heap[p]? = some (objW { s with rtr:=x } v):=by simp only [World.setCell,Array.getElem?_modify,h];rfl
theorem setW10 (x : Int) : (w.setCell ⟨p,10,none⟩ (.int .i64 x)).heap[p]? = some (objW { s with dlc:=x } v):=by simp only [World.setCell,Array.getElem?_modify,h];rfl
theorem setW11 (x : Value) : (w.setCell ⟨p,11,none⟩ x).heap[p]? = some (objW s x):=by simp only [World.setCell,Array.getElem?_modify,h];rfl
end
def put12 (w : World) (q : Nat) (s : WS) (v : Value) : World :=
 (((((((((((w.setCell ⟨q,0,none⟩ (.int .i64 s.code)).setCell ⟨q,1,none⟩ (.int .i64 s.field)).setCell ⟨q,2,none⟩ (.int .i64 s.left)).setCell ⟨q,3,none⟩ (.int .i64 s.run)).setCell ⟨q,4,none⟩ (.int .i32 s.level)).setCell ⟨q,5,none⟩ (.int .i64 s.sum)).setCell ⟨q,6,none⟩ (.int .i64 s.got)).setCell ⟨q,7,none⟩ (.bool s.ext)).setCell ⟨q,8,none⟩ (.int .u32 s.id)).setCell ⟨q,9,none⟩ (.bool s.rtr)).setCell ⟨q,10,none⟩ (.int .i64 s.dlc)).setCell ⟨q,11,none⟩ v
theorem put12_obj {w : World} {q : Nat} {s0 : WS} {v0 : Value} (h : w.heap[q]? = some (objW s0 v0)) (s : WS) (v : Value) : (put12 w q s v).heap[q]? = some (objW s v) :=
 setW11 (setW10 (setW9 (setW8 (setW7 (setW6 (setW5 (setW4 (setW3 (setW2 (setW1 (setW0 h s.code) s.field) s.left) s.run) s.level) s.sum) s.got) s.ext) s.id) s.rtr) s.dlc) v
theorem put12_tch (w : World) (q : Nat) (s : WS) (v : Value) : Tch w (put12 w q s v) (fun k => k = q) :=
 (((((((((((((Tch.refl1 w q).one 0 _).one 1 _).one 2 _).one 3 _).one 4 _).one 5 _).one 6 _).one 7 _).one 8 _).one 9 _).one 10 _).one 11 _)
structure EndW (w : World) (p : Nat) (s : WS) (v : Value) (e : Ending) (w' : World) : Prop where
 ret : e = .returned (.tuple #[])
 obj : w'.heap[p]? = some (objW s v)
 tch : Tch w w' (fun k => k = p)
structure RetW (w : World) (p : Nat) (s : WS) (v : Value) (x : Value) (e : Ending) (w' : World) : Prop where
 ret : e = .returned x
 obj : w'.heap[p]? = some (objW s v)
 tch : Tch w w' (fun k => k = p)
def enterL (s : WS) (f : Int) : Int:=if f = 2 then 11 else if f = 5 then 18 else if f = 7 then (if s.ext = true then 2 else 1) else if f = 8 then 4 else if f = 9 then 8 * dataB s.rtr s.dlc else if f = 10 then 15 else if f = 14 then 7 else 1
def enterW (s : WS) (f : Int) : WS:=if f = 9 ∧ dataB s.rtr s.dlc = 0 then { s with field:=10,left:=15 } else { s with field:=f,left:=enterL s f }
def nextW (s : WS) : WS:=if s.left - 1 > 0 then { s with left:=s.left - 1 } else if s.field = 4 ∧ s.ext = false then enterW { s with left:=s.left - 1 } 7 else enterW { s with left:=s.left - 1 } (s.field + 1)
def dueW (s : WS) : Bool:=s.run == 5 && decide (s.field ≤ 11)
def crcOkW (s : WS) : Bool:=decide (10 < s.field) && s.sum == s.got
def endW (s : WS) (b : Int) : WS:=if 1 < s.left ∧ b = 0 then { s with code:=4 } else if s.left = 2 then { s with code:=1 } else if s.left = 1 ∧ b = 0 then { s with code:=6 } else if s.left = 1 then { s with code:=2 } else s
structure WOk (s : WS) : Prop where
 f0 : 1 ≤ s.field
 f1 : s.field ≤ 14
 l0 : 1 ≤ s.left
 l1 : s.left ≤ 64
 r0 : 0 ≤ s.run
 r1 : s.run ≤ 5
 d0 : 0 ≤ s.dlc
 d1 : s.dlc ≤ 15
 g0 : 0 ≤ s.got
 g1 : s.got < 32768
 i0 : 0 ≤ s.id
 i1 : s.id < 4294967296
 ne : s.field = 9 → s.left % 8 ≠ 0 → s.data ≠ []
 by_ : ∀ x ∈ s.data,0 ≤ x ∧ x < 256
 dl : s.data.length ≤ 100
def dataW (s : WS) (b : Int) : List Int:=let d:=if s.left % 8 = 0 then s.data ++ [0] else s.data;d.set (d.length - 1) ((2 * rd d ((d.length : Int) - 1) + b) % 256)
def takeW (s : WS) (b : Int) : WS :=
 if s.field = 1 then (if b = 1 then { s with code:=4 } else s)
 else if s.field = 2 ∨ s.field = 5 then { s with id:=(2 * s.id + b) % 4294967296 }
 else if s.field = 3 ∨ s.field = 6 then { s with rtr:=b == 1 }
 else if s.field = 4 then { s with ext:=b == 1 }
 else if s.field = 8 then { s with dlc:=2 * s.dlc + b }
 else if s.field = 9 then { s with data:=dataW s b }
 else if s.field = 10 then { s with got:=2 * s.got + b }
 else if s.field = 11 then (if b = 0 then { s with code:=4 } else s)
 else if s.field = 13 then (if b = 0 then { s with code:=4 } else if crcOkW s = true then s else { s with code:=5 })
 else if s.field = 14 then endW s b else s
def sumW (s : WS) (b : Int) : WS:=if s.field ≤ 9 then { s with sum:=crcI s.sum b } else s
def plainW (s : WS) (b : Int) : WS:=nextW (takeW (sumW s b) b)
def hearW (s0 : WS) (c : Int) : WS :=
 let s := { s0 with code:=0 }
 if dueW s = true then (if c = s.level then { s with code:=3,run:=1,level:=c } else { s with run:=1,level:=c })
 else if s.field ≤ 10 then (if 0 < s.run ∧ s.level = c then plainW { s with run:=s.run + 1 } (c - 48) else plainW { s with run:=1,level:=c } (c - 48))
 else plainW { s with run:=0 } (c - 48)
structure WAt (w0 w : World) (p : Nat) (S : Nat → Prop) (s : WS) (v : Value) : Prop where
 obj : w.heap[p]? = some (objW s v)
 row : Kd.R (Kd.int .u8) 5 w w0.heap.size S v s.data
theorem infoU8w : (Try.prog.info? 5).map (fun i => (i.zero,i.size,i.bytes)) = some (some (.int .u8 0),1,1):=by kernel_rfl
structure EndP (w0 w : World) (p : Nat) (S : Nat → Prop) (s : WS) (e : Ending) (w' : World) : Prop where
 ret : e = .returned (.tuple #[])
 at_ : ∃ v,WAt w0 w' p S s v
 tch : Tch w w' (fun k => k = p ∨ S k)
theorem EndW.toP {w0 w w' : World} {p : Nat} {S : Nat → Prop} {s : WS} {v : Value} {e : Ending} (h : EndW w p s v e w') (hr : Kd.R (Kd.int .u8) 5 w w0.heap.size S v s.data) (hS : ¬ S p) : EndP w0 w p S s e w' :=
 ⟨h.ret,⟨v,h.obj,h.tch.R hr (fun k hk e => hS (e ▸ hk))⟩,h.tch.mono fun k hk => .inl hk⟩
structure W9At (w0 w w1 : World) (p : Nat) (S : Nat → Prop) (s : WS) (d : List Int) (m g c1 : Nat) (v1 : Value) : Prop where
 obj : w1.heap[p]? = some (objW s v1)
 row : Kd.R (Kd.int .u8) 5 w1 w0.heap.size S (.slice (some ⟨g,0,none⟩) (m + 1) c1) d
 len : d.length = m + 1
 tch : Tch w w1 (fun k => k = p ∨ S k)
 own : S g
theorem W9At.facts {w0 w w1 : World} {p : Nat} {S : Nat → Prop} {s : WS} {d : List Int} {m g c1 : Nat} {v1 : Value} (h : W9At w0 w w1 p S s d m g c1 v1) (hS : ¬ S p) (hm : m < 1000) :
  g ≠ p ∧ p ≠ g ∧ ((0 ≤ (m : Int)) = True) ∧ (((m : Int) < ((m + 1 : Nat) : Int)) = True) ∧ w1.cell? ⟨g,m,none⟩ = some (.int .u8 (rd d (m : Int))) ∧ w1.frozen? ⟨g,m,none⟩ = false ∧ w1.cell? ⟨p,11,none⟩ = some v1 ∧ w1.frozen? ⟨p,11,none⟩ = false:=by
 have hgp : g ≠ p:=fun e => hS (e ▸ h.own)
 obtain ⟨hx,hf⟩:=Kd.R_celln 0 h.row (m : Int) (by omega) (by omega)
 rw [Int.toNat_natCast] at hx hf
 exact ⟨hgp,fun e => hgp e.symm,eq_true (by omega),eq_true (by omega),hx,hf,cW11 h.obj,fW h.obj 11⟩
theorem w9_append {w0 w w1 : World} {S : Nat → Prop} {p : Nat} {s : WS} {d : List Int} {v v1 : Value} (hp : w.heap[p]? = some (objW s v)) (hv : Kd.R (Kd.int .u8) 5 w w0.heap.size S v d) (hS : ¬ S p)
  (ho : Kd.R (Kd.int .u8) 5 w1 w0.heap.size S v1 (d ++ [0])) (hg : w.grownBy w1 v.ownBlock) : ∃ (g c1 : Nat),v1 = .slice (some ⟨g,0,none⟩) (d.length + 1) c1 ∧ W9At w0 w w1 p S s (d ++ [0]) d.length g c1 v:=by
 obtain ⟨g,c1,e1, -, -, -, -⟩:=Kd.R_form ho (by simp)
 subst e1
 have hl : (d ++ [0]).length = d.length + 1:=by simp
 rw [hl] at ho ⊢
 exact ⟨g,c1,rfl,blk_grown hp hg (fun e => hS (hv.1 p e.symm)),ho,hl,(Tch.refl _ _).grown hg (fun k hk => .inl (.inr (hv.1 k hk))),ho.1 g rfl⟩
theorem w9_same {w0 w : World} {S : Nat → Prop} {p : Nat} {s : WS} {d : List Int} {v : Value} (hp : w.heap[p]? = some (objW s v)) (hv : Kd.R (Kd.int .u8) 5 w w0.heap.size S v d) {m : Nat} (hm : d.length = m + 1) : ∃ (g c1 : Nat),v = .slice (some ⟨g,0,none⟩) (m + 1) c1 ∧ W9At w0 w w p S s d m g c1 v:=by
 obtain ⟨g,c1,e1, -, -, -, -⟩:=Kd.R_form hv (by omega)
 subst e1
 rw [hm] at hv ⊢
 exact ⟨g,c1,rfl,by rw [← hm];rw [hm] at hp ⊢;exact hp,hv,hm,Tch.refl _ _,hv.1 g rfl⟩
theorem w9_mid {w0 w w1 : World} {p : Nat} {S : Nat → Prop} {s : WS} {d : List Int} {m g c1 : Nat} {v1 V : Value} (h : W9At w0 w w1 p S s d m g c1 v1) (hS : ¬ S p) : W9At w0 w (w1.setCell ⟨p,11,none⟩ V) p S s d m g c1 V :=
 ⟨setW11 h.obj V,Kd.R_step h.row (fun k hk _ => Below.heap_setCell _ _ _ k (fun e => hS ((show k = p from e) ▸ hk))),h.len,h.tch.setCell (.inl (.inl rfl)) _,h.own⟩
theorem w9_draw {w0 w w1 : World} {p : Nat} {S : Nat → Prop} {s : WS} {d : List Int} {m g c1 : Nat} {v1 : Value} (h : W9At w0 w w1 p S s d m g c1 v1) (n : Nat) : W9At w0 w (w1.drewN n) p S s d m g c1 v1 :=
 ⟨h.obj,Kd.R_step h.row (fun _ _ _ => rfl),h.len,h.tch.drewN n,h.own⟩
theorem w9_put {w0 w w1 : World} {p : Nat} {S : Nat → Prop} {s : WS} {d : List Int} {m g c1 : Nat} (h : W9At w0 w w1 p S s d m g c1 (.slice (some ⟨g,0,none⟩) (m + 1) c1)) (hS : ¬ S p) (x : Int) : W9At w0 w (w1.setCell ⟨g,m,none⟩ (.int .u8 x)) p S s (d.set m x) m g c1 (.slice (some ⟨g,0,none⟩) (m + 1) c1):=by
 obtain ⟨h1,h2⟩:=Kd.R_putg h.row (m : Int) x
 rw [Int.toNat_natCast] at h1 h2
 exact ⟨blk_grown h.obj h2 (fun e => hS (by injection e with e;exact e ▸ h.own)),h1,by rw [List.length_set];exact h.len,h.tch.setCell (.inl (.inr h.own)) _,h.own⟩
def enterP (s : WS) (f : Int) : Int × Int:=if f = 9 ∧ dataB s.rtr s.dlc = 0 then (10,15) else (f,enterL s f)
def nextP (s : WS) : Int × Int:=if s.left - 1 > 0 then (s.field,s.left - 1) else if s.field = 4 ∧ s.ext = false then enterP s 7 else enterP s (s.field + 1)
theorem enterW_eq (s : WS) (f : Int) : enterW s f = { s with field:=(enterP s f).1,left:=(enterP s f).2 }:=by
 unfold enterW enterP
 by_cases c : f = 9 ∧ dataB s.rtr s.dlc = 0
 ·rw [if_pos c,if_pos c]
 ·rw [if_neg c,if_neg c]
theorem nextW_eq (s : WS) : nextW s = { s with field:=(nextP s).1,left:=(nextP s).2 }:=by
 unfold nextW nextP
 by_cases c : s.left - 1 > 0
 ·rw [if_pos c,if_pos c]
 ·rw [if_neg c,if_neg c]
  by_cases c2 : s.field = 4 ∧ s.ext = false
  ·rw [if_pos c2,if_pos c2,enterW_eq];rfl
  ·rw [if_neg c2,if_neg c2,enterW_eq];rfl
def withData (s : WS) (d : List Int) : WS := { s with data:=d }
theorem nextW_data (s : WS) (d : List Int) : nextW (withData s d) = withData (nextW s) d:=by
 rw [nextW_eq,nextW_eq];rfl
structure WIn (w0 w : World) (p : Nat) (S : Nat → Prop) (s : WS) (v : Value) : Prop where
 obj : w.heap[p]? = some (objW s v)
 row : Kd.R (Kd.int .u8) 5 w w0.heap.size S v s.data
 below : Below w0.heap.size w0 w
 fresh : ∀ k,w.heap.size ≤ k → S k
theorem WIn.put {w0 w : World} {p : Nat} {S : Nat → Prop} {s : WS} {v : Value} (h : WIn w0 w p S s v) (hS : ¬ S p) (hpl : w0.heap.size ≤ p) {j : Nat} {u : Value} {s' : WS} (ho : (w.setCell ⟨p,j,none⟩ u).heap[p]? = some (objW s' v)) (hd : s'.data = s.data) : WIn w0 (w.setCell ⟨p,j,none⟩ u) p S s' v :=
 ⟨ho,by rw [hd];exact Kd.R_step h.row (fun k hk _ => Below.heap_setCell _ _ _ k (fun e => hS ((show k = p from e) ▸ hk))),h.below.setCell hpl _,fun k hk => h.fresh k (by simpa [World.setCell] using hk)⟩
theorem plainW_data (s : WS) (b : Int) (h : s.field ≠ 9) : (plainW s b).data = s.data:=by
 have e1 : (sumW s b).data = s.data ∧ (sumW s b).field = s.field:=by unfold sumW;split <;> exact ⟨rfl,rfl⟩
 have e2 : (takeW (sumW s b) b).data = (sumW s b).data:=by
  generalize sumW s b = t at e1 ⊢
  have hne : ¬ t.field = 9:=by rw [e1.2];exact h
  have e3 : (endW t b).data = t.data:=by unfold endW;(repeat' split) <;> rfl
  unfold takeW
  rw [if_neg hne]
  (repeat' split) <;> first | rfl | exact e3
 unfold plainW
 rw [nextW_eq]
 exact e2.trans e1.1
theorem run_le4 {s : WS} (hd : dueW s = false) (hf : s.field ≤ 10) (r1 : s.run ≤ 5) : s.run ≤ 4:=by
 by_cases h5 : s.run = 5
 ·unfold dueW at hd
  rw [h5,decide_eq_true (show s.field ≤ 11 by omega)] at hd
  exact absurd hd (by decide)
 ·omega
theorem nat_or_bit (m b : Nat) (hb : b ≤ 1) : (m * 2) ||| b = 2 * m + b:=by
 have:=Nat.two_pow_add_eq_or_of_lt (i:=1) (b:=b) (by omega) m
 rw [Nat.pow_one] at this
 rw [Nat.mul_comm m 2, ← this]
theorem or_i64 (x b : Int) (h0 : 0 ≤ x) (h1 : x < 1000000000) (hb : b = 0 ∨ b = 1) : Go.bits .or .i64 (wrap64 (x * 2)) b = 2 * x + b:=by
 obtain ⟨n,rfl⟩ : ∃ n : Nat,x = (n : Int):=⟨x.toNat,by omega⟩
 obtain ⟨m,rfl,hm⟩ : ∃ m : Nat,b = (m : Int) ∧ m ≤ 1:=⟨b.toNat,by omega,by omega⟩
 have e : wrap64 ((n : Int) * 2) = ((n * 2 : Nat) : Int):=by unfold wrap64;omega
 have hp : (2 : Nat) ^ 62 ≤ 2 ^ IntKind.i64.bits:=Nat.pow_le_pow_right (by decide) (by decide)
 have ha' : (n * 2) % 2 ^ IntKind.i64.bits = n * 2:=Nat.mod_eq_of_lt (Nat.lt_of_lt_of_le (by omega) hp)
 have hb' : m % 2 ^ IntKind.i64.bits = m:=Nat.mod_eq_of_lt (Nat.lt_of_lt_of_le (by omega) hp)
 rw [e]
 simp only [Go.bits,BitVec.ofInt_natCast,BitVec.toNat_or,BitVec.toNat_ofNat,ha',hb']
 rw [nat_or_bit n m hm,IntKind.wrap_i64]
 omega
theorem or_u32 (x b : Int) (h0 : 0 ≤ x) (hb : b = 0 ∨ b = 1) : Go.bits .or .u32 ((x * 2) % 4294967296) b = (2 * x + b) % 4294967296:=by
 obtain ⟨n,rfl⟩ : ∃ n : Nat,x = (n : Int):=⟨x.toNat,by omega⟩
 obtain ⟨m,rfl,hm⟩ : ∃ m : Nat,b = (m : Int) ∧ m ≤ 1:=⟨b.toNat,by omega,by omega⟩
 have e : ((n : Int) * 2) % 4294967296 = (((n % 2147483648) * 2 : Nat) : Int):=by omega
 have ha' : ((n % 2147483648) * 2) % 2 ^ IntKind.u32.bits = (n % 2147483648) * 2:=Nat.mod_eq_of_lt (show (n % 2147483648) * 2 < 4294967296 by omega)
 have hb' : m % 2 ^ IntKind.u32.bits = m:=Nat.mod_eq_of_lt (show m < 4294967296 by omega)
 rw [e]
 simp only [Go.bits,BitVec.ofInt_natCast,BitVec.toNat_or,BitVec.toNat_ofNat,ha',hb']
 rw [nat_or_bit _ m hm,IntKind.wrap_u32]
 omega
theorem or_u8 (x b : Int) (h0 : 0 ≤ x) (hb : b = 0 ∨ b = 1) : Go.bits .or .u8 ((x * 2) % 256) b = (2 * x + b) % 256:=by
 obtain ⟨n,rfl⟩ : ∃ n : Nat,x = (n : Int):=⟨x.toNat,by omega⟩
 obtain ⟨m,rfl,hm⟩ : ∃ m : Nat,b = (m : Int) ∧ m ≤ 1:=⟨b.toNat,by omega,by omega⟩
 have e : ((n : Int) * 2) % 256 = (((n % 128) * 2 : Nat) : Int):=by omega
 have ha' : ((n % 128) * 2) % 2 ^ IntKind.u8.bits = (n % 128) * 2:=Nat.mod_eq_of_lt (show (n % 128) * 2 < 256 by omega)
 have hb' : m % 2 ^ IntKind.u8.bits = m:=Nat.mod_eq_of_lt (show m < 256 by omega)
 rw [e]
 simp only [Go.bits,BitVec.ofInt_natCast,BitVec.toNat_or,BitVec.toNat_ofNat,ha',hb']
 rw [nat_or_bit _ m hm,IntKind.wrap_u8]
 omega
theorem rd_range {l : List Int} (h : ∀ x ∈ l,0 ≤ x ∧ x < 256) (i : Int) : 0 ≤ rd l i:=by
 unfold rd
 rw [List.getD_eq_getElem?_getD]
 cases e : l[i.toNat]? with
 | none => exact Int.le_refl 0
 | some y => exact (h y (List.mem_of_getElem? e)).1
theorem takeW9 (t : WS) (b : Int) (h : t.field = 9) : takeW t b = withData t (dataW t b):=by
 unfold takeW
 rw [if_neg (by omega),if_neg (by omega),if_neg (by omega),if_neg (by omega),if_neg (by omega),if_pos h]
 rfl
theorem plain9_eq (s : WS) (b : Int) (hb : b = 0 ∨ b = 1) (hf : s.field = 9) (d : List Int) (m : Nat) (hd : d = if s.left % 8 = 0 then s.data ++ [0] else s.data) (hl : d.length = m + 1) (hr : 0 ≤ rd d (m : Int)) :
  plainW s b = withData (nextW { s with sum:=crcI s.sum b }) (d.set m (Go.bits .or .u8 (rd d (m : Int) * 2 % 256) b)):=by
 have e0 : sumW s b = { s with sum:=crcI s.sum b }:=by unfold sumW;rw [if_pos (by omega)]
 have : dataW { s with sum:=crcI s.sum b } b = d.set m ((2 * rd d (m : Int) + b) % 256):=by
  unfold dataW
  simp only []
  rw [← hd,hl,show ((m + 1 : Nat) : Int) - 1 = (m : Int) by omega,show m + 1 - 1 = m by omega]
 unfold plainW
 rw [e0,takeW9 ({ s with sum:=crcI s.sum b }) b hf,or_u8 _ b hr hb,this,nextW_data]
end Go.Proofs.Ytdoclpgciadjaaa.P

namespace Go.Proofs.Ytdoclpgciadjaaa.P
open Go.RowKit Go.Proofs.YtdoclpgciadjaaaW.PrintWords Go.Proofs.YtdoclpgciadjaaaW.PrintLast Go.Proofs.YtdoclpgciadjaaaW.PrintMore
set_option linter.unusedVariables false
set_option linter.unusedSimpArgs false
theorem enter10 (p : Nat) (v : Value) (s : WS) (w : World) (hp : w.heap[p]? = some (objW s v)) :
  Calls Try.prog 133 #[.pointer (some ⟨p,0,none⟩), .int .i64 10] w (EndW w p { s with field:=10,left:=15 } v):=by
 have HP:=Lib.hid hp
 have hc1:=cW1 hp
 have hc2:=cW2 hp
 have hf:=fW hp
 have hf1:=hf 1
 have hf2:=hf 2
 clear hp hf
 go_enter Try.func133,Try.ntmps133
 go_wp2_with (fail)
 go_end0
 exact ⟨rfl,setW2 (setW1 HP.out 10) 15,((Tch.refl1 _ _).one _ _).one _ _⟩
theorem enter_lit (p : Nat) (v : Value) (s : WS) (w : World) (hp : w.heap[p]? = some (objW s v)) (f : Int) (hf : f ≠ 7) (hf9 : f ≠ 9) :
  Calls Try.prog 133 #[.pointer (some ⟨p,0,none⟩), .int .i64 f] w (EndW w p { s with field:=f,left:=enterL s f } v):=by
 have HP:=Lib.hid hp
 have hc1:=cW1 hp
 have hc2:=cW2 hp
 have hf:=fW hp
 have hf1:=hf 1
 have hf2:=hf 2
 clear hp hf
 have b7 : (f == 7) = false:=by simp;omega
 have b9 : (f == 9) = false:=by simp;omega
 by_cases c2 : f = 2
 ·subst c2
  go_enter Try.func133,Try.ntmps133
  go_wp2_with (fail)
  go_end0
  exact ⟨rfl,setW2 (setW1 HP.out 2) 11,((Tch.refl1 _ _).one _ _).one _ _⟩
 by_cases c5 : f = 5
 ·subst c5
  go_enter Try.func133,Try.ntmps133
  go_wp2_with (fail)
  go_end0
  exact ⟨rfl,setW2 (setW1 HP.out 5) 18,((Tch.refl1 _ _).one _ _).one _ _⟩
 by_cases c8 : f = 8
 ·subst c8
  go_enter Try.func133,Try.ntmps133
  go_wp2_with (fail)
  go_end0
  exact ⟨rfl,setW2 (setW1 HP.out 8) 4,((Tch.refl1 _ _).one _ _).one _ _⟩
 by_cases c10 : f = 10
 ·subst c10
  exact enter10 p v s w HP.out
 by_cases c14 : f = 14
 ·subst c14
  go_enter Try.func133,Try.ntmps133
  go_wp2_with (fail)
  go_end0
  exact ⟨rfl,setW2 (setW1 HP.out 14) 7,((Tch.refl1 _ _).one _ _).one _ _⟩
 have hL : Hid (enterL s f = 1):=Lib.hid (by unfold enterL;rw [if_neg c2,if_neg c5,if_neg (by omega),if_neg c8,if_neg (by omega),if_neg c10,if_neg c14])
 have b2 : (f == 2) = false:=by simp;omega
 have b5 : (f == 5) = false:=by simp;omega
 have b8 : (f == 8) = false:=by simp;omega
 have b10 : (f == 10) = false:=by simp;omega
 have b14 : (f == 14) = false:=by simp;omega
 clear c2 c5 c8 c10 c14 hf hf9
 go_enter Try.func133,Try.ntmps133
 go_wp2_with (fail)
 go_end0
 rw [hL.out]
 exact ⟨rfl,setW2 (setW1 HP.out f) 1,((Tch.refl1 _ _).one _ _).one _ _⟩
theorem enter7 (p : Nat) (v : Value) (s : WS) (w : World) (hp : w.heap[p]? = some (objW s v)) :
  Calls Try.prog 133 #[.pointer (some ⟨p,0,none⟩), .int .i64 7] w (EndW w p { s with field:=7,left:=enterL s 7 } v):=by
 have HP:=Lib.hid hp
 have hc1:=cW1 hp
 have hc2:=cW2 hp
 have hc7:=cW7 hp
 have hf:=fW hp
 have hf1:=hf 1
 have hf2:=hf 2
 clear hp hf
 obtain ⟨b,hb⟩ : ∃ b,s.ext = b:=⟨_,rfl⟩
 rw [hb] at hc7
 have hL : Hid (enterL s 7 = if b = true then 2 else 1):=Lib.hid (by rw [← hb];rfl)
 clear hb
 rw [hL.out]
 cases b with
 | true =>
  go_enter Try.func133,Try.ntmps133
  go_wp2_with (fail)
  go_end0
  exact ⟨rfl,setW2 (setW2 (setW1 HP.out 7) 1) 2,(((Tch.refl1 _ _).one _ _).one _ _).one _ _⟩
 | false =>
  go_enter Try.func133,Try.ntmps133
  go_wp2_with (fail)
  go_end0
  exact ⟨rfl,setW2 (setW1 HP.out 7) 1,((Tch.refl1 _ _).one _ _).one _ _⟩
theorem enter9 (p : Nat) (v : Value) (s : WS) (w : World) (hp : w.heap[p]? = some (objW s v)) (h0 : 0 ≤ s.dlc) :
  Calls Try.prog 133 #[.pointer (some ⟨p,0,none⟩), .int .i64 9] w (EndW w p (enterW s 9) v):=by
 have HP:=Lib.hid hp
 have hc1:=cW1 hp
 have hc2:=cW2 hp
 have hc9:=cW9 hp
 have hc10:=cW10 hp
 have hf:=fW hp
 have hf1:=hf 1
 have hf2:=hf 2
 clear hp hf
 have hd0 : 0 ≤ dataB s.rtr s.dlc:=by unfold dataB;split <;> (try split) <;> omega
 have hd8 : dataB s.rtr s.dlc ≤ 8:=by unfold dataB;split <;> (try split) <;> omega
 go_enter Try.func133,Try.ntmps133
 go_upto_region 14 with (fail)
 go_cut [] (fun wc => Aside0 (wc.heap[p]? = some (objW { s with field:=9,left:=8 * dataB s.rtr s.dlc } v)) ∧ Aside0 (Tch w wc (fun k => k = p)))
 case first =>
  have hw : IntKind.i64.wrap (8 * dataB s.rtr s.dlc) = 8 * dataB s.rtr s.dlc:=by rw [IntKind.wrap_i64];omega
  go_region_with (go_at_call 105;refine (impl_dataBytes.same _ _ _).mono ?_;rintro e w' ⟨rfl,rfl⟩)
  all_goals
   go_wp2_with (fail)
   go_meet
   case rel => exact ⟨⟨blk_drew (setW2 (setW1 HP.out 9) (8 * dataB s.rtr s.dlc))⟩,⟨Tch.drew (((Tch.refl1 _ _).one _ _).one _ _)⟩⟩
 case rest =>
  obtain ⟨HO,HT⟩:=hcut
  clear hc1 hc2 hc9 hc10 hf1 hf2
  have hc2:=cW2 HO.out
  have hf2:=fW HO.out 2
  by_cases c : dataB s.rtr s.dlc = 0
  ·have hL : Hid (enterW s 9 = { s with field:=10,left:=15 }):=Lib.hid (by unfold enterW;rw [if_pos ⟨rfl,c⟩])
   have hb : (8 * dataB s.rtr s.dlc == 0) = true:=by simp;omega
   clear c
   go_wp2_with (go_at_call 133;refine (enter10 p v _ _ HO.out).mono ?_;intro e w' hE;have HE:=Lib.hid hE;obtain rfl:=hE.ret;clear hE)
   go_end0
   rw [hL.out]
   exact ⟨rfl,HE.out.obj,HT.out.trans HE.out.tch⟩
  ·have hL : Hid (enterW s 9 = { s with field:=9,left:=8 * dataB s.rtr s.dlc }):=Lib.hid (by unfold enterW;rw [if_neg (fun h => c h.2)];rfl)
   have hb : (8 * dataB s.rtr s.dlc == 0) = false:=by simp;omega
   clear c
   go_wp2_with (fail)
   go_end0
   rw [hL.out]
   exact ⟨rfl,HO.out,HT.out⟩
theorem impl_walk_enter.calls (p : Nat) (v : Value) (s : WS) (f : Int) (w : World) (hp : w.heap[p]? = some (objW s v)) (h0 : 0 ≤ s.dlc) :
  Calls Try.prog 133 #[.pointer (some ⟨p,0,none⟩), .int .i64 f] w (EndW w p (enterW s f) v):=by
 by_cases c9 : f = 9
 ·subst c9;exact enter9 p v s w hp h0
 have e : enterW s f = { s with field:=f,left:=enterL s f }:=by unfold enterW;rw [if_neg (fun h => c9 h.1)]
 rw [e]
 by_cases c7 : f = 7
 ·subst c7;exact enter7 p v s w hp
 ·exact enter_lit p v s w hp f c7 c9
end Go.Proofs.Ytdoclpgciadjaaa.P

namespace Go.Proofs.Ytdoclpgciadjaaa.P
open Go.RowKit Go.Proofs.YtdoclpgciadjaaaW.PrintWords Go.Proofs.YtdoclpgciadjaaaW.PrintLast Go.Proofs.YtdoclpgciadjaaaW.PrintMore
set_option linter.unusedVariables false
set_option linter.unusedSimpArgs false
theorem impl_walk_due.calls (p : Nat) (v : Value) (s : WS) (w : World) (hp : w.heap[p]? = some (objW s v)) :
  Calls Try.prog 82 #[.pointer (some ⟨p,0,none⟩)] w fun e w' => e = .returned (.bool (dueW s)) ∧ w = w':=by
 have hc1:=cW1 hp
 have hc3:=cW3 hp
 clear hp
 unfold dueW
 by_cases c : s.run = 5
 ·have b5 : (s.run == 5) = true:=by simp [c]
  rw [b5]
  go_enter Try.func82,Try.ntmps82
  go_wp2_with (fail)
  go_ret
  exact ⟨rfl,rfl⟩
 ·have b5 : (s.run == 5) = false:=by simp [c]
  rw [b5]
  go_enter Try.func82,Try.ntmps82
  go_wp2_with (fail)
  go_ret
  exact ⟨rfl,rfl⟩
end Go.Proofs.Ytdoclpgciadjaaa.P

namespace Go.Proofs.Ytdoclpgciadjaaa.P
open Go.RowKit Go.Proofs.YtdoclpgciadjaaaW.PrintWords Go.Proofs.YtdoclpgciadjaaaW.PrintLast Go.Proofs.YtdoclpgciadjaaaW.PrintMore
set_option linter.unusedVariables false
set_option linter.unusedSimpArgs false
theorem impl_walk_crcOk.calls (p : Nat) (v : Value) (s : WS) (w : World) (hp : w.heap[p]? = some (objW s v)) :
  Calls Try.prog 83 #[.pointer (some ⟨p,0,none⟩)] w fun e w' => e = .returned (.bool (crcOkW s)) ∧ ∃ n,w' = w.drewN n:=by
 have hc1:=cW1 hp
 have hc5:=cW5 hp
 have hc6:=cW6 hp
 clear hp
 unfold crcOkW
 by_cases c : 10 < s.field
 ·have b5 : decide (10 < s.field) = true:=decide_eq_true c
  rw [b5]
  go_enter Try.func83,Try.ntmps83
  go_wp2_with (fail)
  go_quiet (fail)
  go_wp2_with (fail)
  go_ret
  exact ⟨rfl,_,rfl⟩
 ·have b5 : decide (10 < s.field) = false:=decide_eq_false c
  rw [b5]
  go_enter Try.func83,Try.ntmps83
  go_wp2_with (fail)
  go_quiet (fail)
  go_wp2_with (fail)
  go_ret
  exact ⟨rfl,_,rfl⟩
theorem crcOk_is (p : Nat) (v : Value) (s : WS) (w : World) (hp : w.heap[p]? = some (objW s v)) (k : Bool) (hk : crcOkW s = k) :
  Calls Try.prog 83 #[.pointer (some ⟨p,0,none⟩)] w (RetW w p s v (.bool k)):=by
 subst hk
 refine (impl_walk_crcOk.calls p v s w hp).mono ?_
 rintro e w' ⟨rfl,n,rfl⟩
 exact ⟨rfl,blk_drewN hp n,(Tch.refl _ _).drewN n⟩
end Go.Proofs.Ytdoclpgciadjaaa.P

namespace Go.Proofs.Ytdoclpgciadjaaa.P
open Go.RowKit Go.Proofs.YtdoclpgciadjaaaW.PrintWords Go.Proofs.YtdoclpgciadjaaaW.PrintLast Go.Proofs.YtdoclpgciadjaaaW.PrintMore
set_option linter.unusedVariables false
set_option linter.unusedSimpArgs false
theorem impl_walk_end.calls (p : Nat) (v : Value) (s : WS) (b : Int) (hb : b = 0 ∨ b = 1) (w : World) (hp : w.heap[p]? = some (objW s v)) :
  Calls Try.prog 165 #[.pointer (some ⟨p,0,none⟩), .int .i64 b] w (EndW w p (endW s b) v):=by
 have HP:=Lib.hid hp
 have hc0:=cW0 hp
 have hc2:=cW2 hp
 have hf0:=fW hp 0
 clear hp
 have yes : ∀ x : Int,EndW w p { s with code:=x } v (.returned (.tuple #[])) (w.setCell ⟨p,0,none⟩ (.int .i64 x)):=fun x => ⟨rfl,setW0 HP.out x,(Tch.refl1 _ _).one _ _⟩
 have no : EndW w p s v (.returned (.tuple #[])) w:=⟨rfl,HP.out,Tch.refl1 _ _⟩
 have YES:=Lib.hid yes
 have NO:=Lib.hid no
 clear yes no
 rcases hb with rfl | rfl
 ·by_cases c1 : 1 < s.left
  ·have b1 : decide (1 < s.left) = true:=decide_eq_true c1
   have hL : Hid (endW s 0 = { s with code:=4 }):=Lib.hid (by unfold endW;rw [if_pos ⟨c1,rfl⟩])
   clear c1
   go_enter Try.func165,Try.ntmps165
   go_wp2_with (fail)
   go_end0
   rw [hL.out]
   exact YES.out 4
  ·have b1 : decide (1 < s.left) = false:=decide_eq_false c1
   have b2 : (s.left == 2) = false:=by simp;omega
   by_cases c3 : s.left = 1
   ·have b3 : (s.left == 1) = true:=by simp [c3]
    have hL : Hid (endW s 0 = { s with code:=6 }):=Lib.hid (by unfold endW;rw [if_neg (by omega),if_neg (by omega),if_pos ⟨c3,rfl⟩])
    clear c1 c3
    go_enter Try.func165,Try.ntmps165
    go_wp2_with (fail)
    go_end0
    rw [hL.out]
    exact YES.out 6
   ·have b3 : (s.left == 1) = false:=by simp [c3]
    have hL : Hid (endW s 0 = s):=Lib.hid (by unfold endW;rw [if_neg (by omega),if_neg (by omega),if_neg (by omega),if_neg c3])
    clear c1 c3
    go_enter Try.func165,Try.ntmps165
    go_wp2_with (fail)
    go_end0
    rw [hL.out]
    exact NO.out
 ·by_cases c2 : s.left = 2
  ·have b2 : (s.left == 2) = true:=by simp [c2]
   have b1 : decide (1 < s.left) = true:=decide_eq_true (by omega)
   have hL : Hid (endW s 1 = { s with code:=1 }):=Lib.hid (by unfold endW;rw [if_neg (by omega),if_pos c2])
   clear c2
   go_enter Try.func165,Try.ntmps165
   go_wp2_with (fail)
   go_end0
   rw [hL.out]
   exact YES.out 1
  ·have b2 : (s.left == 2) = false:=by simp [c2]
   by_cases c3 : s.left = 1
   ·have b3 : (s.left == 1) = true:=by simp [c3]
    have b1 : decide (1 < s.left) = false:=decide_eq_false (by omega)
    have hL : Hid (endW s 1 = { s with code:=2 }):=Lib.hid (by unfold endW;rw [if_neg (by omega),if_neg c2,if_neg (by omega),if_pos c3])
    clear c2 c3
    go_enter Try.func165,Try.ntmps165
    go_wp2_with (fail)
    go_end0
    rw [hL.out]
    exact YES.out 2
   ·have b3 : (s.left == 1) = false:=by simp [c3]
    have hL : Hid (endW s 1 = s):=Lib.hid (by unfold endW;rw [if_neg (by omega),if_neg c2,if_neg (by omega),if_neg c3])
    by_cases c1 : 1 < s.left
    ·have b1 : decide (1 < s.left) = true:=decide_eq_true c1
     clear c1 c2 c3
     go_enter Try.func165,Try.ntmps165
     go_wp2_with (fail)
     go_end0
     rw [hL.out]
     exact NO.out
    ·have b1 : decide (1 < s.left) = false:=decide_eq_false c1
     clear c1 c2 c3
     go_enter Try.func165,Try.ntmps165
     go_wp2_with (fail)
     go_end0
     rw [hL.out]
     exact NO.out
end Go.Proofs.Ytdoclpgciadjaaa.P

namespace Go.Proofs.Ytdoclpgciadjaaa.P
open Go.RowKit Go.Proofs.YtdoclpgciadjaaaW.PrintWords Go.Proofs.YtdoclpgciadjaaaW.PrintLast Go.Proofs.YtdoclpgciadjaaaW.PrintMore
set_option linter.unusedVariables false
set_option linter.unusedSimpArgs false
theorem impl_walk_next.calls (p : Nat) (v : Value) (s : WS) (w : World) (hp : w.heap[p]? = some (objW s v)) (h0 : 0 ≤ s.dlc) (l0 : 1 ≤ s.left) (l1 : s.left ≤ 64) (f0 : 1 ≤ s.field) (f1 : s.field ≤ 14) :
  Calls Try.prog 166 #[.pointer (some ⟨p,0,none⟩)] w (EndW w p (nextW s) v):=by
 have HP:=Lib.hid hp
 have hc1:=cW1 hp
 have hc2:=cW2 hp
 have hc7:=cW7 hp
 have hf:=fW hp
 have hf2:=hf 2
 clear hp hf
 by_cases c : s.left - 1 > 0
 ·have hL : Hid (nextW s = { s with left:=s.left - 1 }):=Lib.hid (by unfold nextW;rw [if_pos c])
  have cb : decide (0 < s.left - 1) = true:=decide_eq_true (by omega)
  have cb1 : decide (1 < s.left) = true:=decide_eq_true (by omega)
  go_enter Try.func166,Try.ntmps166
  go_wp2_with (fail)
  go_end0
  rw [hL.out]
  exact ⟨rfl,setW2 HP.out _,(Tch.refl1 _ _).one _ _⟩
 ·have cb : decide (0 < s.left - 1) = false:=decide_eq_false (by omega)
  have cb1 : decide (1 < s.left) = false:=decide_eq_false (by omega)
  have HS:=Lib.hid (setW2 HP.out (s.left - 1))
  have HT:=Lib.hid ((Tch.refl1 w p).one 2 (.int .i64 (s.left - 1)))
  by_cases c4 : s.field = 4
  ·have b4 : (s.field == 4) = true:=by simp [c4]
   obtain ⟨b,hb⟩ : ∃ b,s.ext = b:=⟨_,rfl⟩
   rw [hb] at hc7
   have hL : Hid (nextW s = if b = false then enterW { s with left:=s.left - 1 } 7 else enterW { s with left:=s.left - 1 } 5):=Lib.hid (by unfold nextW;rw [if_neg c, ← hb];simp [c4])
   clear hb
   cases b with
   | true =>
    go_enter Try.func166,Try.ntmps166
    go_wp2_with (fail)
    (refine (impl_walk_enter.calls p v _ _ _ HS.out h0).mono ?_;intro e w' hE;have HE:=Lib.hid hE;obtain rfl:=hE.ret;clear hE)
    go_wp2_with (fail)
    go_end0
    rw [hL.out]
    exact ⟨rfl,HE.out.obj,HT.out.trans HE.out.tch⟩
   | false =>
    go_enter Try.func166,Try.ntmps166
    go_wp2_with (fail)
    (refine (impl_walk_enter.calls p v _ _ _ HS.out h0).mono ?_;intro e w' hE;have HE:=Lib.hid hE;obtain rfl:=hE.ret;clear hE)
    go_wp2_with (fail)
    go_end0
    rw [hL.out]
    exact ⟨rfl,HE.out.obj,HT.out.trans HE.out.tch⟩
  ·have b4 : (s.field == 4) = false:=by simp [c4]
   have hL : Hid (nextW s = enterW { s with left:=s.left - 1 } (s.field + 1)):=Lib.hid (by unfold nextW;rw [if_neg c,if_neg (fun h => c4 h.1)])
   go_enter Try.func166,Try.ntmps166
   go_wp2_with (fail)
   (refine (impl_walk_enter.calls p v _ _ _ HS.out h0).mono ?_;intro e w' hE;have HE:=Lib.hid hE;obtain rfl:=hE.ret;clear hE)
   go_wp2_with (fail)
   go_end0
   rw [hL.out]
   exact ⟨rfl,HE.out.obj,HT.out.trans HE.out.tch⟩
end Go.Proofs.Ytdoclpgciadjaaa.P

namespace Go.Proofs.Ytdoclpgciadjaaa.P
open Go.RowKit Go.Proofs.YtdoclpgciadjaaaW.PrintWords Go.Proofs.YtdoclpgciadjaaaW.PrintLast Go.Proofs.YtdoclpgciadjaaaW.PrintMore
set_option linter.unusedVariables false
set_option linter.unusedSimpArgs false
theorem slice_sz (w : World) (p : Addr) (u : Value) : Value.slice (some ⟨w.heap.size,0,none⟩) 1 1 = Value.slice (some ⟨(w.setCell p u).heap.size,0,none⟩) 1 1:=by simp [World.setCell]
set_option maxHeartbeats 1000000 in
set_option maxRecDepth 100000 in
theorem plain_9_0_app (p : Nat) (v : Value) (s : WS) (S : Nat → Prop) (w0 w : World) (hp : w.heap[p]? = some (objW s v)) (hv : Kd.R (Kd.int .u8) 5 w w0.heap.size S v s.data) (hB : Below w0.heap.size w0 w) (hpl : w0.heap.size ≤ p) (hS : ¬ S p) (hF : ∀ k,w.heap.size ≤ k → S k) (ok : WOk s) (hfld : s.field = 9) (hm8 : s.left % 8 = 0) :
  Calls Try.prog 156 #[.pointer (some ⟨p,0,none⟩), .int .i64 0] w (EndP w0 w p S (plainW s 0)):=by
 have HP:=Lib.hid hp
 have HV:=Lib.hid hv
 have HB:=Lib.hid hB
 have OK:=Lib.hid ok
 have HF:=Lib.hid hfld
 have hc1:=cW1 hp
 have hc2:=cW2 hp
 have hc5:=cW5 hp
 have hc11:=cW11 hp
 have hf5:=fW hp 5
 have hf11:=fW hp 11
 have l0:=ok.l0
 have l1:=ok.l1
 have hdl:=ok.dl
 have hm : (Int.tmod s.left 8 == 0) = true:=by rw [Int.tmod_eq_emod_of_nonneg (by omega)];simp;omega
 have hm2 : (s.left % 8 == 0) = true:=by simp;omega
 rw [hfld] at hc1
 have HP1:=Lib.hid (setW5 HP.out (crcI s.sum 0))
 have HV1 : Hid (Kd.R (Kd.int .u8) 5 (w.setCell ⟨p,5,none⟩ (.int .i64 (crcI s.sum 0))) w0.heap.size S v s.data):=Lib.hid (Kd.R_step HV.out (fun k hk _ => Below.heap_setCell _ _ _ k (fun e => hS ((show k = p from e) ▸ hk))))
 have HB1 : Hid (Below w0.heap.size w0 (w.setCell ⟨p,5,none⟩ (.int .i64 (crcI s.sum 0)))):=Lib.hid (HB.out.setCell hpl _)
 have HT1 : Hid (Tch w (w.setCell ⟨p,5,none⟩ (.int .i64 (crcI s.sum 0))) (fun k => k = p ∨ S k)):=Lib.hid ((Tch.refl _ _).setCell (.inl (.inl rfl)) _)
 have HF1 : Hid (∀ k,(w.setCell ⟨p,5,none⟩ (.int .i64 (crcI s.sum 0))).heap.size ≤ k → S k):=Lib.hid fun k hk => hF k (by simpa [World.setCell] using hk)
 have HHM:=Lib.hid hm8
 clear hp hv hB ok hfld hm8 hF
 go_enter Try.func156,Try.ntmps156
 go_wp2_with (first | (go_at_call 78;refine (impl_crcBit.same _ _ _).mono ?_;rintro e w' ⟨rfl,rfl⟩) | (at_builtin;go_loud (refine Kd.R_append (Kd.int .u8) (w0:=w0) w0.heap.size rfl (.tmp 97) (.tmp 98) 22 5 (.int .u8 0) 1 rfl Try.underlying22 infoU8w rfl (by decide) (by omega) v s.data 0 [.int .u8 0] S (fun _ => False) rfl (slice_sz _ _ _) ?aP (fun _ hk => hk.elim) HF1.out ?aO ?aB ?aS ?aL ?_;(case aP => exact rfl);(case aO => exact HV1.out);(case aB => exact HB1.out);(case aS => exact HB1.out.size);(case aL => omega);intro v1 w1 ho hb hg hat;obtain ⟨g,c1,e1,hpk⟩:=w9_append HP1.out HV1.out hS ho hg;subst e1;have HPK:=Lib.hid hpk;clear ho hb hg hat hc1 hc2 hc5 hc11 hf5 hf11 hpk;obtain ⟨hgp,hpg,p5,q5,hx0,hfx0,hc11,hf11⟩:=W9At.facts HPK.out hS (by omega))))
 go_quiet (fail)
 have HPK4:=Lib.hid (w9_draw (w9_mid (V := .slice (some ⟨g,0,none⟩) (s.data.length + 1) c1) HPK.out hS) nq)
 clear hgp hpg p5 q5 hx0 hfx0 hc11 hf11
 generalize World.drewN _ nq = W4 at HPK4 ⊢
 obtain ⟨-, -, -, -,hx4,hfx4, -, -⟩:=W9At.facts HPK4.out hS (by omega)
 have HPUT:=Lib.hid (w9_put HPK4.out hS (Go.bits .or .u8 (rd (s.data ++ [0]) (s.data.length : Int) * 2 % 256) 0))
 go_wp2_with (fail)
 (refine (impl_walk_next.calls p _ ({ s with sum:=crcI s.sum 0 }) _ HPUT.out.obj OK.out.d0 OK.out.l0 OK.out.l1 OK.out.f0 OK.out.f1).mono ?_;intro e w2 hE;have HE:=Lib.hid hE;obtain rfl:=hE.ret;clear hE)
 go_wp2_with (fail)
 go_end0
 rw [plain9_eq s 0 (by omega) HF.out (s.data ++ [0]) s.data.length (by rw [if_pos HHM.out]) (by simp) (rd_range (fun x hx => by rcases List.mem_append.1 hx with h | h;exact OK.out.by_ x h;rw [List.mem_singleton] at h;omega) _)]
 exact ⟨rfl,⟨_,HE.out.obj,HE.out.tch.R HPUT.out.row (fun k hk e => hS (e ▸ hk))⟩,(HT1.out.trans HPUT.out.tch).trans (HE.out.tch.mono fun k hk => .inl hk)⟩
set_option maxHeartbeats 1000000 in
set_option maxRecDepth 100000 in
theorem plain_9_0_in (p : Nat) (v : Value) (s : WS) (S : Nat → Prop) (w0 w : World) (hp : w.heap[p]? = some (objW s v)) (hv : Kd.R (Kd.int .u8) 5 w w0.heap.size S v s.data) (hB : Below w0.heap.size w0 w) (hpl : w0.heap.size ≤ p) (hS : ¬ S p) (hF : ∀ k,w.heap.size ≤ k → S k) (ok : WOk s) (hfld : s.field = 9) (hm8 : ¬ s.left % 8 = 0) :
  Calls Try.prog 156 #[.pointer (some ⟨p,0,none⟩), .int .i64 0] w (EndP w0 w p S (plainW s 0)):=by
 have HP:=Lib.hid hp
 have HV:=Lib.hid hv
 have HB:=Lib.hid hB
 have OK:=Lib.hid ok
 have HF:=Lib.hid hfld
 have hc1:=cW1 hp
 have hc2:=cW2 hp
 have hc5:=cW5 hp
 have hc11:=cW11 hp
 have hf5:=fW hp 5
 have hf11:=fW hp 11
 have l0:=ok.l0
 have l1:=ok.l1
 have hdl:=ok.dl
 have hm : (Int.tmod s.left 8 == 0) = false:=by rw [Int.tmod_eq_emod_of_nonneg (by omega)];simp;omega
 have hm2 : (s.left % 8 == 0) = false:=by simp;omega
 rw [hfld] at hc1
 have HP1:=Lib.hid (setW5 HP.out (crcI s.sum 0))
 have HV1 : Hid (Kd.R (Kd.int .u8) 5 (w.setCell ⟨p,5,none⟩ (.int .i64 (crcI s.sum 0))) w0.heap.size S v s.data):=Lib.hid (Kd.R_step HV.out (fun k hk _ => Below.heap_setCell _ _ _ k (fun e => hS ((show k = p from e) ▸ hk))))
 have HB1 : Hid (Below w0.heap.size w0 (w.setCell ⟨p,5,none⟩ (.int .i64 (crcI s.sum 0)))):=Lib.hid (HB.out.setCell hpl _)
 have HT1 : Hid (Tch w (w.setCell ⟨p,5,none⟩ (.int .i64 (crcI s.sum 0))) (fun k => k = p ∨ S k)):=Lib.hid ((Tch.refl _ _).setCell (.inl (.inl rfl)) _)
 have HF1 : Hid (∀ k,(w.setCell ⟨p,5,none⟩ (.int .i64 (crcI s.sum 0))).heap.size ≤ k → S k):=Lib.hid fun k hk => hF k (by simpa [World.setCell] using hk)
 have HHM:=Lib.hid hm8
 clear hp hv hB ok hfld hm8 hF
 obtain ⟨m,hm0⟩ : ∃ m,s.data.length = m + 1:=⟨s.data.length - 1,by have h1:=OK.out.ne HF.out HHM.out;have:=List.length_pos_iff.2 h1;omega⟩
 obtain ⟨g,c1,e1,hpk⟩:=w9_same HP1.out HV1.out hm0
 subst e1
 have HPK:=Lib.hid hpk
 have HM0:=Lib.hid hm0
 have hmb : m < 1000:=by omega
 clear hpk hm0
 obtain ⟨hgp,hpg,p5,q5,hx0,hfx0,hc11b,hf11b⟩:=W9At.facts HPK.out hS hmb
 go_enter Try.func156,Try.ntmps156
 go_wp2_with (first | (go_at_call 78;refine (impl_crcBit.same _ _ _).mono ?_;rintro e w' ⟨rfl,rfl⟩))
 go_quiet (fail)
 have HPK4:=Lib.hid (w9_draw HPK.out nq)
 clear hgp hpg p5 q5 hx0 hfx0 hc11b hf11b hc1 hc2 hc5 hf5 hc11 hf11
 generalize World.drewN _ nq = W4 at HPK4 ⊢
 obtain ⟨-, -, -, -,hx4,hfx4, -, -⟩:=W9At.facts HPK4.out hS hmb
 have HPUT:=Lib.hid (w9_put HPK4.out hS (Go.bits .or .u8 (rd s.data (m : Int) * 2 % 256) 0))
 go_wp2_with (fail)
 (refine (impl_walk_next.calls p _ ({ s with sum:=crcI s.sum 0 }) _ HPUT.out.obj OK.out.d0 OK.out.l0 OK.out.l1 OK.out.f0 OK.out.f1).mono ?_;intro e w2 hE;have HE:=Lib.hid hE;obtain rfl:=hE.ret;clear hE)
 go_wp2_with (fail)
 go_end0
 rw [plain9_eq s 0 (by omega) HF.out s.data m (by rw [if_neg HHM.out]) HM0.out (rd_range OK.out.by_ _)]
 exact ⟨rfl,⟨_,HE.out.obj,HE.out.tch.R HPUT.out.row (fun k hk e => hS (e ▸ hk))⟩,(HT1.out.trans HPUT.out.tch).trans (HE.out.tch.mono fun k hk => .inl hk)⟩
set_option maxHeartbeats 1000000 in
set_option maxRecDepth 100000 in
theorem plain_9_1_app (p : Nat) (v : Value) (s : WS) (S : Nat → Prop) (w0 w : World) (hp : w.heap[p]? = some (objW s v)) (hv : Kd.R (Kd.int .u8) 5 w w0.heap.size S v s.data) (hB : Below w0.heap.size w0 w) (hpl : w0.heap.size ≤ p) (hS : ¬ S p) (hF : ∀ k,w.heap.size ≤ k → S k) (ok : WOk s) (hfld : s.field = 9) (hm8 : s.left % 8 = 0) :
  Calls Try.prog 156 #[.pointer (some ⟨p,0,none⟩), .int .i64 1] w (EndP w0 w p S (plainW s 1)):=by
 have HP:=Lib.hid hp
 have HV:=Lib.hid hv
 have HB:=Lib.hid hB
 have OK:=Lib.hid ok
 have HF:=Lib.hid hfld
 have hc1:=cW1 hp
 have hc2:=cW2 hp
 have hc5:=cW5 hp
 have hc11:=cW11 hp
 have hf5:=fW hp 5
 have hf11:=fW hp 11
 have l0:=ok.l0
 have l1:=ok.l1
 have hdl:=ok.dl
 have hm : (Int.tmod s.left 8 == 0) = true:=by rw [Int.tmod_eq_emod_of_nonneg (by omega)];simp;omega
 have hm2 : (s.left % 8 == 0) = true:=by simp;omega
 rw [hfld] at hc1
 have HP1:=Lib.hid (setW5 HP.out (crcI s.sum 1))
 have HV1 : Hid (Kd.R (Kd.int .u8) 5 (w.setCell ⟨p,5,none⟩ (.int .i64 (crcI s.sum 1))) w0.heap.size S v s.data):=Lib.hid (Kd.R_step HV.out (fun k hk _ => Below.heap_setCell _ _ _ k (fun e => hS ((show k = p from e) ▸ hk))))
 have HB1 : Hid (Below w0.heap.size w0 (w.setCell ⟨p,5,none⟩ (.int .i64 (crcI s.sum 1)))):=Lib.hid (HB.out.setCell hpl _)
 have HT1 : Hid (Tch w (w.setCell ⟨p,5,none⟩ (.int .i64 (crcI s.sum 1))) (fun k => k = p ∨ S k)):=Lib.hid ((Tch.refl _ _).setCell (.inl (.inl rfl)) _)
 have HF1 : Hid (∀ k,(w.setCell ⟨p,5,none⟩ (.int .i64 (crcI s.sum 1))).heap.size ≤ k → S k):=Lib.hid fun k hk => hF k (by simpa [World.setCell] using hk)
 have HHM:=Lib.hid hm8
 clear hp hv hB ok hfld hm8 hF
 go_enter Try.func156,Try.ntmps156
 go_wp2_with (first | (go_at_call 78;refine (impl_crcBit.same _ _ _).mono ?_;rintro e w' ⟨rfl,rfl⟩) | (at_builtin;go_loud (refine Kd.R_append (Kd.int .u8) (w0:=w0) w0.heap.size rfl (.tmp 97) (.tmp 98) 22 5 (.int .u8 0) 1 rfl Try.underlying22 infoU8w rfl (by decide) (by omega) v s.data 0 [.int .u8 0] S (fun _ => False) rfl (slice_sz _ _ _) ?aP (fun _ hk => hk.elim) HF1.out ?aO ?aB ?aS ?aL ?_;(case aP => exact rfl);(case aO => exact HV1.out);(case aB => exact HB1.out);(case aS => exact HB1.out.size);(case aL => omega);intro v1 w1 ho hb hg hat;obtain ⟨g,c1,e1,hpk⟩:=w9_append HP1.out HV1.out hS ho hg;subst e1;have HPK:=Lib.hid hpk;clear ho hb hg hat hc1 hc2 hc5 hc11 hf5 hf11 hpk;obtain ⟨hgp,hpg,p5,q5,hx0,hfx0,hc11,hf11⟩:=W9At.facts HPK.out hS (by omega))))
 go_quiet (fail)
 have HPK4:=Lib.hid (w9_draw (w9_mid (V := .slice (some ⟨g,0,none⟩) (s.data.length + 1) c1) HPK.out hS) nq)
 clear hgp hpg p5 q5 hx0 hfx0 hc11 hf11
 generalize World.drewN _ nq = W4 at HPK4 ⊢
 obtain ⟨-, -, -, -,hx4,hfx4, -, -⟩:=W9At.facts HPK4.out hS (by omega)
 have HPUT:=Lib.hid (w9_put HPK4.out hS (Go.bits .or .u8 (rd (s.data ++ [0]) (s.data.length : Int) * 2 % 256) 1))
 go_wp2_with (fail)
 (refine (impl_walk_next.calls p _ ({ s with sum:=crcI s.sum 1 }) _ HPUT.out.obj OK.out.d0 OK.out.l0 OK.out.l1 OK.out.f0 OK.out.f1).mono ?_;intro e w2 hE;have HE:=Lib.hid hE;obtain rfl:=hE.ret;clear hE)
 go_wp2_with (fail)
 go_end0
 rw [plain9_eq s 1 (by omega) HF.out (s.data ++ [0]) s.data.length (by rw [if_pos HHM.out]) (by simp) (rd_range (fun x hx => by rcases List.mem_append.1 hx with h | h;exact OK.out.by_ x h;rw [List.mem_singleton] at h;omega) _)]
 exact ⟨rfl,⟨_,HE.out.obj,HE.out.tch.R HPUT.out.row (fun k hk e => hS (e ▸ hk))⟩,(HT1.out.trans HPUT.out.tch).trans (HE.out.tch.mono fun k hk => .inl hk)⟩
set_option maxHeartbeats 1000000 in
set_option maxRecDepth 100000 in
theorem plain_9_1_in (p : Nat) (v : Value) (s : WS) (S : Nat → Prop) (w0 w : World) (hp : w.heap[p]? = some (objW s v)) (hv : Kd.R (Kd.int .u8) 5 w w0.heap.size S v s.data) (hB : Below w0.heap.size w0 w) (hpl : w0.heap.size ≤ p) (hS : ¬ S p) (hF : ∀ k,w.heap.size ≤ k → S k) (ok : WOk s) (hfld : s.field = 9) (hm8 : ¬ s.left % 8 = 0) :
  Calls Try.prog 156 #[.pointer (some ⟨p,0,none⟩), .int .i64 1] w (EndP w0 w p S (plainW s 1)):=by
 have HP:=Lib.hid hp
 have HV:=Lib.hid hv
 have HB:=Lib.hid hB
 have OK:=Lib.hid ok
 have HF:=Lib.hid hfld
 have hc1:=cW1 hp
 have hc2:=cW2 hp
 have hc5:=cW5 hp
 have hc11:=cW11 hp
 have hf5:=fW hp 5
 have hf11:=fW hp 11
 have l0:=ok.l0
 have l1:=ok.l1
 have hdl:=ok.dl
 have hm : (Int.tmod s.left 8 == 0) = false:=by rw [Int.tmod_eq_emod_of_nonneg (by omega)];simp;omega
 have hm2 : (s.left % 8 == 0) = false:=by simp;omega
 rw [hfld] at hc1
 have HP1:=Lib.hid (setW5 HP.out (crcI s.sum 1))
 have HV1 : Hid (Kd.R (Kd.int .u8) 5 (w.setCell ⟨p,5,none⟩ (.int .i64 (crcI s.sum 1))) w0.heap.size S v s.data):=Lib.hid (Kd.R_step HV.out (fun k hk _ => Below.heap_setCell _ _ _ k (fun e => hS ((show k = p from e) ▸ hk))))
 have HB1 : Hid (Below w0.heap.size w0 (w.setCell ⟨p,5,none⟩ (.int .i64 (crcI s.sum 1)))):=Lib.hid (HB.out.setCell hpl _)
 have HT1 : Hid (Tch w (w.setCell ⟨p,5,none⟩ (.int .i64 (crcI s.sum 1))) (fun k => k = p ∨ S k)):=Lib.hid ((Tch.refl _ _).setCell (.inl (.inl rfl)) _)
 have HF1 : Hid (∀ k,(w.setCell ⟨p,5,none⟩ (.int .i64 (crcI s.sum 1))).heap.size ≤ k → S k):=Lib.hid fun k hk => hF k (by simpa [World.setCell] using hk)
 have HHM:=Lib.hid hm8
 clear hp hv hB ok hfld hm8 hF
 obtain ⟨m,hm0⟩ : ∃ m,s.data.length = m + 1:=⟨s.data.length - 1,by have h1:=OK.out.ne HF.out HHM.out;have:=List.length_pos_iff.2 h1;omega⟩
 obtain ⟨g,c1,e1,hpk⟩:=w9_same HP1.out HV1.out hm0
 subst e1
 have HPK:=Lib.hid hpk
 have HM0:=Lib.hid hm0
 have hmb : m < 1000:=by omega
 clear hpk hm0
 obtain ⟨hgp,hpg,p5,q5,hx0,hfx0,hc11b,hf11b⟩:=W9At.facts HPK.out hS hmb
 go_enter Try.func156,Try.ntmps156
 go_wp2_with (first | (go_at_call 78;refine (impl_crcBit.same _ _ _).mono ?_;rintro e w' ⟨rfl,rfl⟩))
 go_quiet (fail)
 have HPK4:=Lib.hid (w9_draw HPK.out nq)
 clear hgp hpg p5 q5 hx0 hfx0 hc11b hf11b hc1 hc2 hc5 hf5 hc11 hf11
 generalize World.drewN _ nq = W4 at HPK4 ⊢
 obtain ⟨-, -, -, -,hx4,hfx4, -, -⟩:=W9At.facts HPK4.out hS hmb
 have HPUT:=Lib.hid (w9_put HPK4.out hS (Go.bits .or .u8 (rd s.data (m : Int) * 2 % 256) 1))
 go_wp2_with (fail)
 (refine (impl_walk_next.calls p _ ({ s with sum:=crcI s.sum 1 }) _ HPUT.out.obj OK.out.d0 OK.out.l0 OK.out.l1 OK.out.f0 OK.out.f1).mono ?_;intro e w2 hE;have HE:=Lib.hid hE;obtain rfl:=hE.ret;clear hE)
 go_wp2_with (fail)
 go_end0
 rw [plain9_eq s 1 (by omega) HF.out s.data m (by rw [if_neg HHM.out]) HM0.out (rd_range OK.out.by_ _)]
 exact ⟨rfl,⟨_,HE.out.obj,HE.out.tch.R HPUT.out.row (fun k hk e => hS (e ▸ hk))⟩,(HT1.out.trans HPUT.out.tch).trans (HE.out.tch.mono fun k hk => .inl hk)⟩
end Go.Proofs.Ytdoclpgciadjaaa.P

namespace Go.Proofs.Ytdoclpgciadjaaa.P
open Go.RowKit Go.Proofs.YtdoclpgciadjaaaW.PrintWords Go.Proofs.YtdoclpgciadjaaaW.PrintLast Go.Proofs.YtdoclpgciadjaaaW.PrintMore
set_option linter.unusedVariables false
set_option linter.unusedSimpArgs false
theorem endW_left (s : WS) (b : Int) : (endW s b).left = s.left:=by unfold endW;(repeat' split) <;> rfl
theorem endW_field (s : WS) (b : Int) : (endW s b).field = s.field:=by unfold endW;(repeat' split) <;> rfl
theorem endW_dlc (s : WS) (b : Int) : (endW s b).dlc = s.dlc:=by unfold endW;(repeat' split) <;> rfl
theorem plain_1_0 (p : Nat) (v : Value) (s : WS) (w : World) (hp : w.heap[p]? = some (objW s v)) (ok : WOk s) (hfld : s.field = 1) :
  Calls Try.prog 156 #[.pointer (some ⟨p,0,none⟩), .int .i64 0] w (EndW w p (plainW s 0) v):=by
 have HP:=Lib.hid hp
 have hc1:=cW1 hp
 have hc5:=cW5 hp
 have hf5:=fW hp 5
 have HF:=Lib.hid hfld
 have OK:=Lib.hid ok
 have hL : Hid (plainW s 0 = nextW { s with sum:=crcI s.sum 0 }):=Lib.hid (by
  have e0 : sumW s 0 = { s with sum:=crcI s.sum 0 }:=by unfold sumW;rw [if_pos (by omega)]
  unfold plainW
  rw [e0]
  unfold takeW
  simp only [hfld]
  rfl)
 rw [hfld] at hc1
 clear hp hfld ok
 go_enter Try.func156,Try.ntmps156
 go_wp2_with (first | (go_at_call 78;refine (impl_crcBit.same _ _ _).mono ?_;rintro e w' ⟨rfl,rfl⟩))
 (refine (impl_walk_next.calls p v ({ s with sum:=crcI s.sum 0 }) _ (setW5 HP.out _) OK.out.d0 OK.out.l0 OK.out.l1 OK.out.f0 OK.out.f1).mono ?_;intro e w2 hE;have HE:=Lib.hid hE;obtain rfl:=hE.ret;clear hE)
 go_wp2_with (fail)
 go_end0
 rw [hL.out]
 exact ⟨rfl,HE.out.obj,((Tch.refl1 _ _).one 5 _).trans HE.out.tch⟩
theorem plain_1_1 (p : Nat) (v : Value) (s : WS) (w : World) (hp : w.heap[p]? = some (objW s v)) (ok : WOk s) (hfld : s.field = 1) :
  Calls Try.prog 156 #[.pointer (some ⟨p,0,none⟩), .int .i64 1] w (EndW w p (plainW s 1) v):=by
 have HP:=Lib.hid hp
 have hc1:=cW1 hp
 have hc5:=cW5 hp
 have hf5:=fW hp 5
 have hf0:=fW hp 0
 have hc0:=cW0 hp
 have HF:=Lib.hid hfld
 have OK:=Lib.hid ok
 have hL : Hid (plainW s 1 = nextW { s with sum:=crcI s.sum 1,code:=4 }):=Lib.hid (by
  have e0 : sumW s 1 = { s with sum:=crcI s.sum 1 }:=by unfold sumW;rw [if_pos (by omega)]
  unfold plainW
  rw [e0]
  unfold takeW
  simp only [hfld]
  rfl)
 rw [hfld] at hc1
 clear hp hfld ok
 go_enter Try.func156,Try.ntmps156
 go_wp2_with (first | (go_at_call 78;refine (impl_crcBit.same _ _ _).mono ?_;rintro e w' ⟨rfl,rfl⟩))
 (refine (impl_walk_next.calls p v ({ s with sum:=crcI s.sum 1,code:=4 }) _ (setW0 (setW5 HP.out _) _) OK.out.d0 OK.out.l0 OK.out.l1 OK.out.f0 OK.out.f1).mono ?_;intro e w2 hE;have HE:=Lib.hid hE;obtain rfl:=hE.ret;clear hE)
 go_wp2_with (fail)
 go_end0
 rw [hL.out]
 exact ⟨rfl,HE.out.obj,(((Tch.refl1 _ _).one 5 _).one 0 _).trans HE.out.tch⟩
theorem plain_2_0 (p : Nat) (v : Value) (s : WS) (w : World) (hp : w.heap[p]? = some (objW s v)) (ok : WOk s) (hfld : s.field = 2) :
  Calls Try.prog 156 #[.pointer (some ⟨p,0,none⟩), .int .i64 0] w (EndW w p (plainW s 0) v):=by
 have HP:=Lib.hid hp
 have hc1:=cW1 hp
 have hc5:=cW5 hp
 have hc8:=cW8 hp
 have hf5:=fW hp 5
 have hf8:=fW hp 8
 have HF:=Lib.hid hfld
 have OK:=Lib.hid ok
 have hL : Hid (plainW s 0 = nextW { s with sum:=crcI s.sum 0,id:=Go.bits .or .u32 (s.id * 2 % 4294967296) 0 }):=Lib.hid (by
  have e0 : sumW s 0 = { s with sum:=crcI s.sum 0 }:=by unfold sumW;rw [if_pos (by omega)]
  unfold plainW
  rw [e0]
  unfold takeW
  simp only [hfld]
  rw [or_u32 s.id 0 ok.i0 (by omega)]
  rfl)
 rw [hfld] at hc1
 clear hp hfld ok
 go_enter Try.func156,Try.ntmps156
 go_wp2_with (first | (go_at_call 78;refine (impl_crcBit.same _ _ _).mono ?_;rintro e w' ⟨rfl,rfl⟩))
 (refine (impl_walk_next.calls p v ({ s with sum:=crcI s.sum 0,id:=Go.bits .or .u32 (s.id * 2 % 4294967296) 0 }) _ (setW8 (setW5 HP.out _) _) OK.out.d0 OK.out.l0 OK.out.l1 OK.out.f0 OK.out.f1).mono ?_;intro e w2 hE;have HE:=Lib.hid hE;obtain rfl:=hE.ret;clear hE)
 go_wp2_with (fail)
 go_end0
 rw [hL.out]
 exact ⟨rfl,HE.out.obj,(((Tch.refl1 _ _).one 5 _).one 8 _).trans HE.out.tch⟩
theorem plain_2_1 (p : Nat) (v : Value) (s : WS) (w : World) (hp : w.heap[p]? = some (objW s v)) (ok : WOk s) (hfld : s.field = 2) :
  Calls Try.prog 156 #[.pointer (some ⟨p,0,none⟩), .int .i64 1] w (EndW w p (plainW s 1) v):=by
 have HP:=Lib.hid hp
 have hc1:=cW1 hp
 have hc5:=cW5 hp
 have hc8:=cW8 hp
 have hf5:=fW hp 5
 have hf8:=fW hp 8
 have HF:=Lib.hid hfld
 have OK:=Lib.hid ok
 have hL : Hid (plainW s 1 = nextW { s with sum:=crcI s.sum 1,id:=Go.bits .or .u32 (s.id * 2 % 4294967296) 1 }):=Lib.hid (by
  have e0 : sumW s 1 = { s with sum:=crcI s.sum 1 }:=by unfold sumW;rw [if_pos (by omega)]
  unfold plainW
  rw [e0]
  unfold takeW
  simp only [hfld]
  rw [or_u32 s.id 1 ok.i0 (by omega)]
  rfl)
 rw [hfld] at hc1
 clear hp hfld ok
 go_enter Try.func156,Try.ntmps156
 go_wp2_with (first | (go_at_call 78;refine (impl_crcBit.same _ _ _).mono ?_;rintro e w' ⟨rfl,rfl⟩))
 (refine (impl_walk_next.calls p v ({ s with sum:=crcI s.sum 1,id:=Go.bits .or .u32 (s.id * 2 % 4294967296) 1 }) _ (setW8 (setW5 HP.out _) _) OK.out.d0 OK.out.l0 OK.out.l1 OK.out.f0 OK.out.f1).mono ?_;intro e w2 hE;have HE:=Lib.hid hE;obtain rfl:=hE.ret;clear hE)
 go_wp2_with (fail)
 go_end0
 rw [hL.out]
 exact ⟨rfl,HE.out.obj,(((Tch.refl1 _ _).one 5 _).one 8 _).trans HE.out.tch⟩
theorem plain_3_0 (p : Nat) (v : Value) (s : WS) (w : World) (hp : w.heap[p]? = some (objW s v)) (ok : WOk s) (hfld : s.field = 3) :
  Calls Try.prog 156 #[.pointer (some ⟨p,0,none⟩), .int .i64 0] w (EndW w p (plainW s 0) v):=by
 have HP:=Lib.hid hp
 have hc1:=cW1 hp
 have hc5:=cW5 hp
 have hc9:=cW9 hp
 have hf5:=fW hp 5
 have hf9:=fW hp 9
 have HF:=Lib.hid hfld
 have OK:=Lib.hid ok
 have hL : Hid (plainW s 0 = nextW { s with sum:=crcI s.sum 0,rtr:=false }):=Lib.hid (by
  have e0 : sumW s 0 = { s with sum:=crcI s.sum 0 }:=by unfold sumW;rw [if_pos (by omega)]
  unfold plainW
  rw [e0]
  unfold takeW
  simp only [hfld]
  rfl)
 rw [hfld] at hc1
 clear hp hfld ok
 go_enter Try.func156,Try.ntmps156
 go_wp2_with (first | (go_at_call 78;refine (impl_crcBit.same _ _ _).mono ?_;rintro e w' ⟨rfl,rfl⟩))
 (refine (impl_walk_next.calls p v ({ s with sum:=crcI s.sum 0,rtr:=false }) _ (setW9 (setW5 HP.out _) _) OK.out.d0 OK.out.l0 OK.out.l1 OK.out.f0 OK.out.f1).mono ?_;intro e w2 hE;have HE:=Lib.hid hE;obtain rfl:=hE.ret;clear hE)
 go_wp2_with (fail)
 go_end0
 rw [hL.out]
 exact ⟨rfl,HE.out.obj,(((Tch.refl1 _ _).one 5 _).one 9 _).trans HE.out.tch⟩
theorem plain_3_1 (p : Nat) (v : Value) (s : WS) (w : World) (hp : w.heap[p]? = some (objW s v)) (ok : WOk s) (hfld : s.field = 3) :
  Calls Try.prog 156 #[.pointer (some ⟨p,0,none⟩), .int .i64 1] w (EndW w p (plainW s 1) v):=by
 have HP:=Lib.hid hp
 have hc1:=cW1 hp
 have hc5:=cW5 hp
 have hc9:=cW9 hp
 have hf5:=fW hp 5
 have hf9:=fW hp 9
 have HF:=Lib.hid hfld
 have OK:=Lib.hid ok
 have hL : Hid (plainW s 1 = nextW { s with sum:=crcI s.sum 1,rtr:=true }):=Lib.hid (by
  have e0 : sumW s 1 = { s with sum:=crcI s.sum 1 }:=by unfold sumW;rw [if_pos (by omega)]
  unfold plainW
  rw [e0]
  unfold takeW
  simp only [hfld]
  rfl)
 rw [hfld] at hc1
 clear hp hfld ok
 go_enter Try.func156,Try.ntmps156
 go_wp2_with (first | (go_at_call 78;refine (impl_crcBit.same _ _ _).mono ?_;rintro e w' ⟨rfl,rfl⟩))
 (refine (impl_walk_next.calls p v ({ s with sum:=crcI s.sum 1,rtr:=true }) _ (setW9 (setW5 HP.out _) _) OK.out.d0 OK.out.l0 OK.out.l1 OK.out.f0 OK.out.f1).mono ?_;intro e w2 hE;have HE:=Lib.hid hE;obtain rfl:=hE.ret;clear hE)
 go_wp2_with (fail)
 go_end0
 rw [hL.out]
 exact ⟨rfl,HE.out.obj,(((Tch.refl1 _ _).one 5 _).one 9 _).trans HE.out.tch⟩
theorem plain_4_0 (p : Nat) (v : Value) (s : WS) (w : World) (hp : w.heap[p]? = some (objW s v)) (ok : WOk s) (hfld : s.field = 4) :
  Calls Try.prog 156 #[.pointer (some ⟨p,0,none⟩), .int .i64 0] w (EndW w p (plainW s 0) v):=by
 have HP:=Lib.hid hp
 have hc1:=cW1 hp
 have hc5:=cW5 hp
 have hc7:=cW7 hp
 have hf5:=fW hp 5
 have hf7:=fW hp 7
 have HF:=Lib.hid hfld
 have OK:=Lib.hid ok
 have hL : Hid (plainW s 0 = nextW { s with sum:=crcI s.sum 0,ext:=false }):=Lib.hid (by
  have e0 : sumW s 0 = { s with sum:=crcI s.sum 0 }:=by unfold sumW;rw [if_pos (by omega)]
  unfold plainW
  rw [e0]
  unfold takeW
  simp only [hfld]
  rfl)
 rw [hfld] at hc1
 clear hp hfld ok
 go_enter Try.func156,Try.ntmps156
 go_wp2_with (first | (go_at_call 78;refine (impl_crcBit.same _ _ _).mono ?_;rintro e w' ⟨rfl,rfl⟩))
 (refine (impl_walk_next.calls p v ({ s with sum:=crcI s.sum 0,ext:=false }) _ (setW7 (setW5 HP.out _) _) OK.out.d0 OK.out.l0 OK.out.l1 OK.out.f0 OK.out.f1).mono ?_;intro e w2 hE;have HE:=Lib.hid hE;obtain rfl:=hE.ret;clear hE)
 go_wp2_with (fail)
 go_end0
 rw [hL.out]
 exact ⟨rfl,HE.out.obj,(((Tch.refl1 _ _).one 5 _).one 7 _).trans HE.out.tch⟩
theorem plain_4_1 (p : Nat) (v : Value) (s : WS) (w : World) (hp : w.heap[p]? = some (objW s v)) (ok : WOk s) (hfld : s.field = 4) :
  Calls Try.prog 156 #[.pointer (some ⟨p,0,none⟩), .int .i64 1] w (EndW w p (plainW s 1) v):=by
 have HP:=Lib.hid hp
 have hc1:=cW1 hp
 have hc5:=cW5 hp
 have hc7:=cW7 hp
 have hf5:=fW hp 5
 have hf7:=fW hp 7
 have HF:=Lib.hid hfld
 have OK:=Lib.hid ok
 have hL : Hid (plainW s 1 = nextW { s with sum:=crcI s.sum 1,ext:=true }):=Lib.hid (by
  have e0 : sumW s 1 = { s with sum:=crcI s.sum 1 }:=by unfold sumW;rw [if_pos (by omega)]
  unfold plainW
  rw [e0]
  unfold takeW
  simp only [hfld]
  rfl)
 rw [hfld] at hc1
 clear hp hfld ok
 go_enter Try.func156,Try.ntmps156
 go_wp2_with (first | (go_at_call 78;refine (impl_crcBit.same _ _ _).mono ?_;rintro e w' ⟨rfl,rfl⟩))
 (refine (impl_walk_next.calls p v ({ s with sum:=crcI s.sum 1,ext:=true }) _ (setW7 (setW5 HP.out _) _) OK.out.d0 OK.out.l0 OK.out.l1 OK.out.f0 OK.out.f1).mono ?_;intro e w2 hE;have HE:=Lib.hid hE;obtain rfl:=hE.ret;clear hE)
 go_wp2_with (fail)
 go_end0
 rw [hL.out]
 exact ⟨rfl,HE.out.obj,(((Tch.refl1 _ _).one 5 _).one 7 _).trans HE.out.tch⟩
theorem plain_5_0 (p : Nat) (v : Value) (s : WS) (w : World) (hp : w.heap[p]? = some (objW s v)) (ok : WOk s) (hfld : s.field = 5) :
  Calls Try.prog 156 #[.pointer (some ⟨p,0,none⟩), .int .i64 0] w (EndW w p (plainW s 0) v):=by
 have HP:=Lib.hid hp
 have hc1:=cW1 hp
 have hc5:=cW5 hp
 have hc8:=cW8 hp
 have hf5:=fW hp 5
 have hf8:=fW hp 8
 have HF:=Lib.hid hfld
 have OK:=Lib.hid ok
 have hL : Hid (plainW s 0 = nextW { s with sum:=crcI s.sum 0,id:=Go.bits .or .u32 (s.id * 2 % 4294967296) 0 }):=Lib.hid (by
  have e0 : sumW s 0 = { s with sum:=crcI s.sum 0 }:=by unfold sumW;rw [if_pos (by omega)]
  unfold plainW
  rw [e0]
  unfold takeW
  simp only [hfld]
  rw [or_u32 s.id 0 ok.i0 (by omega)]
  rfl)
 rw [hfld] at hc1
 clear hp hfld ok
 go_enter Try.func156,Try.ntmps156
 go_wp2_with (first | (go_at_call 78;refine (impl_crcBit.same _ _ _).mono ?_;rintro e w' ⟨rfl,rfl⟩))
 (refine (impl_walk_next.calls p v ({ s with sum:=crcI s.sum 0,id:=Go.bits .or .u32 (s.id * 2 % 4294967296) 0 }) _ (setW8 (setW5 HP.out _) _) OK.out.d0 OK.out.l0 OK.out.l1 OK.out.f0 OK.out.f1).mono ?_;intro e w2 hE;have HE:=Lib.hid hE;obtain rfl:=hE.ret;clear hE)
 go_wp2_with (fail)
 go_end0
 rw [hL.out]
 exact ⟨rfl,HE.out.obj,(((Tch.refl1 _ _).one 5 _).one 8 _).trans HE.out.tch⟩
theorem plain_5_1 (p : Nat) (v : Value) (s : WS) (w : World) (hp : w.heap[p]? = some (objW s v)) (ok : WOk s) (hfld : s.field = 5) :
  Calls Try.prog 156 #[.pointer (some ⟨p,0,none⟩), .int .i64 1] w (EndW w p (plainW s 1) v):=by
 have HP:=Lib.hid hp
 have hc1:=cW1 hp
 have hc5:=cW5 hp
 have hc8:=cW8 hp
 have hf5:=fW hp 5
 have hf8:=fW hp 8
 have HF:=Lib.hid hfld
 have OK:=Lib.hid ok
 have hL : Hid (plainW s 1 = nextW { s with sum:=crcI s.sum 1,id:=Go.bits .or .u32 (s.id * 2 % 4294967296) 1 }):=Lib.hid (by
  have e0 : sumW s 1 = { s with sum:=crcI s.sum 1 }:=by unfold sumW;rw [if_pos (by omega)]
  unfold plainW
  rw [e0]
  unfold takeW
  simp only [hfld]
  rw [or_u32 s.id 1 ok.i0 (by omega)]
  rfl)
 rw [hfld] at hc1
 clear hp hfld ok
 go_enter Try.func156,Try.ntmps156
 go_wp2_with (first | (go_at_call 78;refine (impl_crcBit.same _ _ _).mono ?_;rintro e w' ⟨rfl,rfl⟩))
 (refine (impl_walk_next.calls p v ({ s with sum:=crcI s.sum 1,id:=Go.bits .or .u32 (s.id * 2 % 4294967296) 1 }) _ (setW8 (setW5 HP.out _) _) OK.out.d0 OK.out.l0 OK.out.l1 OK.out.f0 OK.out.f1).mono ?_;intro e w2 hE;have HE:=Lib.hid hE;obtain rfl:=hE.ret;clear hE)
 go_wp2_with (fail)
 go_end0
 rw [hL.out]
 exact ⟨rfl,HE.out.obj,(((Tch.refl1 _ _).one 5 _).one 8 _).trans HE.out.tch⟩
theorem plain_6_0 (p : Nat) (v : Value) (s : WS) (w : World) (hp : w.heap[p]? = some (objW s v)) (ok : WOk s) (hfld : s.field = 6) :
  Calls Try.prog 156 #[.pointer (some ⟨p,0,none⟩), .int .i64 0] w (EndW w p (plainW s 0) v):=by
 have HP:=Lib.hid hp
 have hc1:=cW1 hp
 have hc5:=cW5 hp
 have hc9:=cW9 hp
 have hf5:=fW hp 5
 have hf9:=fW hp 9
 have HF:=Lib.hid hfld
 have OK:=Lib.hid ok
 have hL : Hid (plainW s 0 = nextW { s with sum:=crcI s.sum 0,rtr:=false }):=Lib.hid (by
  have e0 : sumW s 0 = { s with sum:=crcI s.sum 0 }:=by unfold sumW;rw [if_pos (by omega)]
  unfold plainW
  rw [e0]
  unfold takeW
  simp only [hfld]
  rfl)
 rw [hfld] at hc1
 clear hp hfld ok
 go_enter Try.func156,Try.ntmps156
 go_wp2_with (first | (go_at_call 78;refine (impl_crcBit.same _ _ _).mono ?_;rintro e w' ⟨rfl,rfl⟩))
 (refine (impl_walk_next.calls p v ({ s with sum:=crcI s.sum 0,rtr:=false }) _ (setW9 (setW5 HP.out _) _) OK.out.d0 OK.out.l0 OK.out.l1 OK.out.f0 OK.out.f1).mono ?_;intro e w2 hE;have HE:=Lib.hid hE;obtain rfl:=hE.ret;clear hE)
 go_wp2_with (fail)
 go_end0
 rw [hL.out]
 exact ⟨rfl,HE.out.obj,(((Tch.refl1 _ _).one 5 _).one 9 _).trans HE.out.tch⟩
theorem plain_6_1 (p : Nat) (v : Value) (s : WS) (w : World) (hp : w.heap[p]? = some (objW s v)) (ok : WOk s) (hfld : s.field = 6) :
  Calls Try.prog 156 #[.pointer (some ⟨p,0,none⟩), .int .i64 1] w (EndW w p (plainW s 1) v):=by
 have HP:=Lib.hid hp
 have hc1:=cW1 hp
 have hc5:=cW5 hp
 have hc9:=cW9 hp
 have hf5:=fW hp 5
 have hf9:=fW hp 9
 have HF:=Lib.hid hfld
 have OK:=Lib.hid ok
 have hL : Hid (plainW s 1 = nextW { s with sum:=crcI s.sum 1,rtr:=true }):=Lib.hid (by
  have e0 : sumW s 1 = { s with sum:=crcI s.sum 1 }:=by unfold sumW;rw [if_pos (by omega)]
  unfold plainW
  rw [e0]
  unfold takeW
  simp only [hfld]
  rfl)
 rw [hfld] at hc1
 clear hp hfld ok
 go_enter Try.func156,Try.ntmps156
 go_wp2_with (first | (go_at_call 78;refine (impl_crcBit.same _ _ _).mono ?_;rintro e w' ⟨rfl,rfl⟩))
 (refine (impl_walk_next.calls p v ({ s with sum:=crcI s.sum 1,rtr:=true }) _ (setW9 (setW5 HP.out _) _) OK.out.d0 OK.out.l0 OK.out.l1 OK.out.f0 OK.out.f1).mono ?_;intro e w2 hE;have HE:=Lib.hid hE;obtain rfl:=hE.ret;clear hE)
 go_wp2_with (fail)
 go_end0
 rw [hL.out]
 exact ⟨rfl,HE.out.obj,(((Tch.refl1 _ _).one 5 _).one 9 _).trans HE.out.tch⟩
theorem plain_7_0 (p : Nat) (v : Value) (s : WS) (w : World) (hp : w.heap[p]? = some (objW s v)) (ok : WOk s) (hfld : s.field = 7) :
  Calls Try.prog 156 #[.pointer (some ⟨p,0,none⟩), .int .i64 0] w (EndW w p (plainW s 0) v):=by
 have HP:=Lib.hid hp
 have hc1:=cW1 hp
 have hc5:=cW5 hp
 have hf5:=fW hp 5
 have HF:=Lib.hid hfld
 have OK:=Lib.hid ok
 have hL : Hid (plainW s 0 = nextW { s with sum:=crcI s.sum 0 }):=Lib.hid (by
  have e0 : sumW s 0 = { s with sum:=crcI s.sum 0 }:=by unfold sumW;rw [if_pos (by omega)]
  unfold plainW
  rw [e0]
  unfold takeW
  simp only [hfld]
  rfl)
 rw [hfld] at hc1
 clear hp hfld ok
 go_enter Try.func156,Try.ntmps156
 go_wp2_with (first | (go_at_call 78;refine (impl_crcBit.same _ _ _).mono ?_;rintro e w' ⟨rfl,rfl⟩))
 (refine (impl_walk_next.calls p v ({ s with sum:=crcI s.sum 0 }) _ (setW5 HP.out _) OK.out.d0 OK.out.l0 OK.out.l1 OK.out.f0 OK.out.f1).mono ?_;intro e w2 hE;have HE:=Lib.hid hE;obtain rfl:=hE.ret;clear hE)
 go_wp2_with (fail)
 go_end0
 rw [hL.out]
 exact ⟨rfl,HE.out.obj,((Tch.refl1 _ _).one 5 _).trans HE.out.tch⟩
theorem plain_7_1 (p : Nat) (v : Value) (s : WS) (w : World) (hp : w.heap[p]? = some (objW s v)) (ok : WOk s) (hfld : s.field = 7) :
  Calls Try.prog 156 #[.pointer (some ⟨p,0,none⟩), .int .i64 1] w (EndW w p (plainW s 1) v):=by
 have HP:=Lib.hid hp
 have hc1:=cW1 hp
 have hc5:=cW5 hp
 have hf5:=fW hp 5
 have HF:=Lib.hid hfld
 have OK:=Lib.hid ok
 have hL : Hid (plainW s 1 = nextW { s with sum:=crcI s.sum 1 }):=Lib.hid (by
  have e0 : sumW s 1 = { s with sum:=crcI s.sum 1 }:=by unfold sumW;rw [if_pos (by omega)]
  unfold plainW
  rw [e0]
  unfold takeW
  simp only [hfld]
  rfl)
 rw [hfld] at hc1
 clear hp hfld ok
 go_enter Try.func156,Try.ntmps156
 go_wp2_with (first | (go_at_call 78;refine (impl_crcBit.same _ _ _).mono ?_;rintro e w' ⟨rfl,rfl⟩))
 (refine (impl_walk_next.calls p v ({ s with sum:=crcI s.sum 1 }) _ (setW5 HP.out _) OK.out.d0 OK.out.l0 OK.out.l1 OK.out.f0 OK.out.f1).mono ?_;intro e w2 hE;have HE:=Lib.hid hE;obtain rfl:=hE.ret;clear hE)
 go_wp2_with (fail)
 go_end0
 rw [hL.out]
 exact ⟨rfl,HE.out.obj,((Tch.refl1 _ _).one 5 _).trans HE.out.tch⟩
theorem plain_8_0 (p : Nat) (v : Value) (s : WS) (w : World) (hp : w.heap[p]? = some (objW s v)) (ok : WOk s) (hfld : s.field = 8) :
  Calls Try.prog 156 #[.pointer (some ⟨p,0,none⟩), .int .i64 0] w (EndW w p (plainW s 0) v):=by
 have HP:=Lib.hid hp
 have hc1:=cW1 hp
 have hc5:=cW5 hp
 have hc10:=cW10 hp
 have hf5:=fW hp 5
 have hf10:=fW hp 10
 have hd0:=ok.d0
 have hd1:=ok.d1
 have HF:=Lib.hid hfld
 have OK:=Lib.hid ok
 have HD : Hid (0 ≤ Go.bits .or .i64 (s.dlc * 2) 0):=Lib.hid (by rw [show s.dlc * 2 = wrap64 (s.dlc * 2) by unfold wrap64;omega,or_i64 s.dlc 0 ok.d0 (by omega) (by omega)];omega)
 have hL : Hid (plainW s 0 = nextW { s with sum:=crcI s.sum 0,dlc:=Go.bits .or .i64 (s.dlc * 2) 0 }):=Lib.hid (by
  have e0 : sumW s 0 = { s with sum:=crcI s.sum 0 }:=by unfold sumW;rw [if_pos (by omega)]
  unfold plainW
  rw [e0]
  unfold takeW
  simp only [hfld]
  rw [show s.dlc * 2 = wrap64 (s.dlc * 2) by unfold wrap64;omega,or_i64 s.dlc 0 ok.d0 (by omega) (by omega)]
  rfl)
 rw [hfld] at hc1
 clear hp hfld ok
 go_enter Try.func156,Try.ntmps156
 go_wp2_with (first | (go_at_call 78;refine (impl_crcBit.same _ _ _).mono ?_;rintro e w' ⟨rfl,rfl⟩))
 (refine (impl_walk_next.calls p v ({ s with sum:=crcI s.sum 0,dlc:=Go.bits .or .i64 (s.dlc * 2) 0 }) _ (setW10 (setW5 HP.out _) _) HD.out OK.out.l0 OK.out.l1 OK.out.f0 OK.out.f1).mono ?_;intro e w2 hE;have HE:=Lib.hid hE;obtain rfl:=hE.ret;clear hE)
 go_wp2_with (fail)
 go_end0
 rw [hL.out]
 exact ⟨rfl,HE.out.obj,(((Tch.refl1 _ _).one 5 _).one 10 _).trans HE.out.tch⟩
theorem plain_8_1 (p : Nat) (v : Value) (s : WS) (w : World) (hp : w.heap[p]? = some (objW s v)) (ok : WOk s) (hfld : s.field = 8) :
  Calls Try.prog 156 #[.pointer (some ⟨p,0,none⟩), .int .i64 1] w (EndW w p (plainW s 1) v):=by
 have HP:=Lib.hid hp
 have hc1:=cW1 hp
 have hc5:=cW5 hp
 have hc10:=cW10 hp
 have hf5:=fW hp 5
 have hf10:=fW hp 10
 have hd0:=ok.d0
 have hd1:=ok.d1
 have HF:=Lib.hid hfld
 have OK:=Lib.hid ok
 have HD : Hid (0 ≤ Go.bits .or .i64 (s.dlc * 2) 1):=Lib.hid (by rw [show s.dlc * 2 = wrap64 (s.dlc * 2) by unfold wrap64;omega,or_i64 s.dlc 1 ok.d0 (by omega) (by omega)];omega)
 have hL : Hid (plainW s 1 = nextW { s with sum:=crcI s.sum 1,dlc:=Go.bits .or .i64 (s.dlc * 2) 1 }):=Lib.hid (by
  have e0 : sumW s 1 = { s with sum:=crcI s.sum 1 }:=by unfold sumW;rw [if_pos (by omega)]
  unfold plainW
  rw [e0]
  unfold takeW
  simp only [hfld]
  rw [show s.dlc * 2 = wrap64 (s.dlc * 2) by unfold wrap64;omega,or_i64 s.dlc 1 ok.d0 (by omega) (by omega)]
  rfl)
 rw [hfld] at hc1
 clear hp hfld ok
 go_enter Try.func156,Try.ntmps156
 go_wp2_with (first | (go_at_call 78;refine (impl_crcBit.same _ _ _).mono ?_;rintro e w' ⟨rfl,rfl⟩))
 (refine (impl_walk_next.calls p v ({ s with sum:=crcI s.sum 1,dlc:=Go.bits .or .i64 (s.dlc * 2) 1 }) _ (setW10 (setW5 HP.out _) _) HD.out OK.out.l0 OK.out.l1 OK.out.f0 OK.out.f1).mono ?_;intro e w2 hE;have HE:=Lib.hid hE;obtain rfl:=hE.ret;clear hE)
 go_wp2_with (fail)
 go_end0
 rw [hL.out]
 exact ⟨rfl,HE.out.obj,(((Tch.refl1 _ _).one 5 _).one 10 _).trans HE.out.tch⟩
theorem plain_10_0 (p : Nat) (v : Value) (s : WS) (w : World) (hp : w.heap[p]? = some (objW s v)) (ok : WOk s) (hfld : s.field = 10) :
  Calls Try.prog 156 #[.pointer (some ⟨p,0,none⟩), .int .i64 0] w (EndW w p (plainW s 0) v):=by
 have HP:=Lib.hid hp
 have hc1:=cW1 hp
 have hc6:=cW6 hp
 have hf6:=fW hp 6
 have hg0:=ok.g0
 have hg1:=ok.g1
 have HF:=Lib.hid hfld
 have OK:=Lib.hid ok
 have hL : Hid (plainW s 0 = nextW { s with got:=Go.bits .or .i64 (s.got * 2) 0 }):=Lib.hid (by
  have e0 : sumW s 0 = s:=by unfold sumW;rw [if_neg (by omega)]
  unfold plainW
  rw [e0]
  unfold takeW
  simp only [hfld]
  rw [show s.got * 2 = wrap64 (s.got * 2) by unfold wrap64;omega,or_i64 s.got 0 ok.g0 (by omega) (by omega)]
  rfl)
 rw [hfld] at hc1
 clear hp hfld ok
 go_enter Try.func156,Try.ntmps156
 go_wp2_with (fail)
 (refine (impl_walk_next.calls p v ({ s with got:=Go.bits .or .i64 (s.got * 2) 0 }) _ (setW6 HP.out _) OK.out.d0 OK.out.l0 OK.out.l1 OK.out.f0 OK.out.f1).mono ?_;intro e w2 hE;have HE:=Lib.hid hE;obtain rfl:=hE.ret;clear hE)
 go_wp2_with (fail)
 go_end0
 rw [hL.out]
 exact ⟨rfl,HE.out.obj,((Tch.refl1 _ _).one 6 _).trans HE.out.tch⟩
theorem plain_10_1 (p : Nat) (v : Value) (s : WS) (w : World) (hp : w.heap[p]? = some (objW s v)) (ok : WOk s) (hfld : s.field = 10) :
  Calls Try.prog 156 #[.pointer (some ⟨p,0,none⟩), .int .i64 1] w (EndW w p (plainW s 1) v):=by
 have HP:=Lib.hid hp
 have hc1:=cW1 hp
 have hc6:=cW6 hp
 have hf6:=fW hp 6
 have hg0:=ok.g0
 have hg1:=ok.g1
 have HF:=Lib.hid hfld
 have OK:=Lib.hid ok
 have hL : Hid (plainW s 1 = nextW { s with got:=Go.bits .or .i64 (s.got * 2) 1 }):=Lib.hid (by
  have e0 : sumW s 1 = s:=by unfold sumW;rw [if_neg (by omega)]
  unfold plainW
  rw [e0]
  unfold takeW
  simp only [hfld]
  rw [show s.got * 2 = wrap64 (s.got * 2) by unfold wrap64;omega,or_i64 s.got 1 ok.g0 (by omega) (by omega)]
  rfl)
 rw [hfld] at hc1
 clear hp hfld ok
 go_enter Try.func156,Try.ntmps156
 go_wp2_with (fail)
 (refine (impl_walk_next.calls p v ({ s with got:=Go.bits .or .i64 (s.got * 2) 1 }) _ (setW6 HP.out _) OK.out.d0 OK.out.l0 OK.out.l1 OK.out.f0 OK.out.f1).mono ?_;intro e w2 hE;have HE:=Lib.hid hE;obtain rfl:=hE.ret;clear hE)
 go_wp2_with (fail)
 go_end0
 rw [hL.out]
 exact ⟨rfl,HE.out.obj,((Tch.refl1 _ _).one 6 _).trans HE.out.tch⟩
theorem plain_11_0 (p : Nat) (v : Value) (s : WS) (w : World) (hp : w.heap[p]? = some (objW s v)) (ok : WOk s) (hfld : s.field = 11) :
  Calls Try.prog 156 #[.pointer (some ⟨p,0,none⟩), .int .i64 0] w (EndW w p (plainW s 0) v):=by
 have HP:=Lib.hid hp
 have hc1:=cW1 hp
 have hf0:=fW hp 0
 have hc0:=cW0 hp
 have HF:=Lib.hid hfld
 have OK:=Lib.hid ok
 have hL : Hid (plainW s 0 = nextW { s with code:=4 }):=Lib.hid (by
  have e0 : sumW s 0 = s:=by unfold sumW;rw [if_neg (by omega)]
  unfold plainW
  rw [e0]
  unfold takeW
  simp only [hfld]
  rfl)
 rw [hfld] at hc1
 clear hp hfld ok
 go_enter Try.func156,Try.ntmps156
 go_wp2_with (fail)
 (refine (impl_walk_next.calls p v ({ s with code:=4 }) _ (setW0 HP.out _) OK.out.d0 OK.out.l0 OK.out.l1 OK.out.f0 OK.out.f1).mono ?_;intro e w2 hE;have HE:=Lib.hid hE;obtain rfl:=hE.ret;clear hE)
 go_wp2_with (fail)
 go_end0
 rw [hL.out]
 exact ⟨rfl,HE.out.obj,((Tch.refl1 _ _).one 0 _).trans HE.out.tch⟩
theorem plain_11_1 (p : Nat) (v : Value) (s : WS) (w : World) (hp : w.heap[p]? = some (objW s v)) (ok : WOk s) (hfld : s.field = 11) :
  Calls Try.prog 156 #[.pointer (some ⟨p,0,none⟩), .int .i64 1] w (EndW w p (plainW s 1) v):=by
 have HP:=Lib.hid hp
 have hc1:=cW1 hp
 have HF:=Lib.hid hfld
 have OK:=Lib.hid ok
 have hL : Hid (plainW s 1 = nextW s):=Lib.hid (by
  have e0 : sumW s 1 = s:=by unfold sumW;rw [if_neg (by omega)]
  unfold plainW
  rw [e0]
  unfold takeW
  simp only [hfld]
  rfl)
 rw [hfld] at hc1
 clear hp hfld ok
 go_enter Try.func156,Try.ntmps156
 go_wp2_with (fail)
 (refine (impl_walk_next.calls p v (s) _ HP.out OK.out.d0 OK.out.l0 OK.out.l1 OK.out.f0 OK.out.f1).mono ?_;intro e w2 hE;have HE:=Lib.hid hE;obtain rfl:=hE.ret;clear hE)
 go_wp2_with (fail)
 go_end0
 rw [hL.out]
 exact ⟨rfl,HE.out.obj,(Tch.refl1 _ _).trans HE.out.tch⟩
theorem plain_12_0 (p : Nat) (v : Value) (s : WS) (w : World) (hp : w.heap[p]? = some (objW s v)) (ok : WOk s) (hfld : s.field = 12) :
  Calls Try.prog 156 #[.pointer (some ⟨p,0,none⟩), .int .i64 0] w (EndW w p (plainW s 0) v):=by
 have HP:=Lib.hid hp
 have hc1:=cW1 hp
 have HF:=Lib.hid hfld
 have OK:=Lib.hid ok
 have hL : Hid (plainW s 0 = nextW s):=Lib.hid (by
  have e0 : sumW s 0 = s:=by unfold sumW;rw [if_neg (by omega)]
  unfold plainW
  rw [e0]
  unfold takeW
  simp only [hfld]
  rfl)
 rw [hfld] at hc1
 clear hp hfld ok
 go_enter Try.func156,Try.ntmps156
 go_wp2_with (fail)
 (refine (impl_walk_next.calls p v (s) _ HP.out OK.out.d0 OK.out.l0 OK.out.l1 OK.out.f0 OK.out.f1).mono ?_;intro e w2 hE;have HE:=Lib.hid hE;obtain rfl:=hE.ret;clear hE)
 go_wp2_with (fail)
 go_end0
 rw [hL.out]
 exact ⟨rfl,HE.out.obj,(Tch.refl1 _ _).trans HE.out.tch⟩
theorem plain_12_1 (p : Nat) (v : Value) (s : WS) (w : World) (hp : w.heap[p]? = some (objW s v)) (ok : WOk s) (hfld : s.field = 12) :
  Calls Try.prog 156 #[.pointer (some ⟨p,0,none⟩), .int .i64 1] w (EndW w p (plainW s 1) v):=by
 have HP:=Lib.hid hp
 have hc1:=cW1 hp
 have HF:=Lib.hid hfld
 have OK:=Lib.hid ok
 have hL : Hid (plainW s 1 = nextW s):=Lib.hid (by
  have e0 : sumW s 1 = s:=by unfold sumW;rw [if_neg (by omega)]
  unfold plainW
  rw [e0]
  unfold takeW
  simp only [hfld]
  rfl)
 rw [hfld] at hc1
 clear hp hfld ok
 go_enter Try.func156,Try.ntmps156
 go_wp2_with (fail)
 (refine (impl_walk_next.calls p v (s) _ HP.out OK.out.d0 OK.out.l0 OK.out.l1 OK.out.f0 OK.out.f1).mono ?_;intro e w2 hE;have HE:=Lib.hid hE;obtain rfl:=hE.ret;clear hE)
 go_wp2_with (fail)
 go_end0
 rw [hL.out]
 exact ⟨rfl,HE.out.obj,(Tch.refl1 _ _).trans HE.out.tch⟩
theorem plain_13_0 (p : Nat) (v : Value) (s : WS) (w : World) (hp : w.heap[p]? = some (objW s v)) (ok : WOk s) (hfld : s.field = 13) :
  Calls Try.prog 156 #[.pointer (some ⟨p,0,none⟩), .int .i64 0] w (EndW w p (plainW s 0) v):=by
 have HP:=Lib.hid hp
 have hc1:=cW1 hp
 have hf0:=fW hp 0
 have hc0:=cW0 hp
 have HF:=Lib.hid hfld
 have OK:=Lib.hid ok
 have hL : Hid (plainW s 0 = nextW { s with code:=4 }):=Lib.hid (by
  have e0 : sumW s 0 = s:=by unfold sumW;rw [if_neg (by omega)]
  unfold plainW
  rw [e0]
  unfold takeW
  simp only [hfld]
  rfl)
 rw [hfld] at hc1
 clear hp hfld ok
 go_enter Try.func156,Try.ntmps156
 go_wp2_with (fail)
 (refine (impl_walk_next.calls p v ({ s with code:=4 }) _ (setW0 HP.out _) OK.out.d0 OK.out.l0 OK.out.l1 OK.out.f0 OK.out.f1).mono ?_;intro e w2 hE;have HE:=Lib.hid hE;obtain rfl:=hE.ret;clear hE)
 go_wp2_with (fail)
 go_end0
 rw [hL.out]
 exact ⟨rfl,HE.out.obj,((Tch.refl1 _ _).one 0 _).trans HE.out.tch⟩
theorem plain_13_1_ok (p : Nat) (v : Value) (s : WS) (w : World) (hp : w.heap[p]? = some (objW s v)) (ok : WOk s) (hfld : s.field = 13) (hk : crcOkW s = true) :
  Calls Try.prog 156 #[.pointer (some ⟨p,0,none⟩), .int .i64 1] w (EndW w p (plainW s 1) v):=by
 have HP:=Lib.hid hp
 have hc1:=cW1 hp
 have HF:=Lib.hid hfld
 have OK:=Lib.hid ok
 have hL : Hid (plainW s 1 = nextW s):=Lib.hid (by
  have e0 : sumW s 1 = s:=by unfold sumW;rw [if_neg (by omega)]
  unfold plainW
  rw [e0]
  unfold takeW
  simp only [hfld]
  rw [hk]
  rfl)
 rw [hfld] at hc1
 have HKK:=Lib.hid hk
 clear hk
 clear hp hfld ok
 go_enter Try.func156,Try.ntmps156
 go_wp2_with (fail)
 (refine (crcOk_is p v s _ HP.out _ HKK.out).mono ?_;intro e w1 hE1;have HE1:=Lib.hid hE1;obtain rfl:=hE1.ret;clear hE1)
 go_wp2_with (fail)
 (refine (impl_walk_next.calls p v (s) _ HE1.out.obj OK.out.d0 OK.out.l0 OK.out.l1 OK.out.f0 OK.out.f1).mono ?_;intro e w2 hE;have HE:=Lib.hid hE;obtain rfl:=hE.ret;clear hE)
 go_wp2_with (fail)
 go_end0
 rw [hL.out]
 exact ⟨rfl,HE.out.obj,HE1.out.tch.trans HE.out.tch⟩
theorem plain_13_1_bad (p : Nat) (v : Value) (s : WS) (w : World) (hp : w.heap[p]? = some (objW s v)) (ok : WOk s) (hfld : s.field = 13) (hk : crcOkW s = false) :
  Calls Try.prog 156 #[.pointer (some ⟨p,0,none⟩), .int .i64 1] w (EndW w p (plainW s 1) v):=by
 have HP:=Lib.hid hp
 have hc1:=cW1 hp
 have hf0:=fW hp 0
 have hc0:=cW0 hp
 have HF:=Lib.hid hfld
 have OK:=Lib.hid ok
 have hL : Hid (plainW s 1 = nextW { s with code:=5 }):=Lib.hid (by
  have e0 : sumW s 1 = s:=by unfold sumW;rw [if_neg (by omega)]
  unfold plainW
  rw [e0]
  unfold takeW
  simp only [hfld]
  rw [hk]
  rfl)
 rw [hfld] at hc1
 have HKK:=Lib.hid hk
 clear hk
 clear hp hfld ok
 go_enter Try.func156,Try.ntmps156
 go_wp2_with (fail)
 (refine (crcOk_is p v s _ HP.out _ HKK.out).mono ?_;intro e w1 hE1;have HE1:=Lib.hid hE1;obtain rfl:=hE1.ret;clear hE1)
 have hc0b:=cW0 HE1.out.obj
 have hf0b:=fW HE1.out.obj 0
 go_wp2_with (fail)
 (refine (impl_walk_next.calls p v ({ s with code:=5 }) _ (setW0 HE1.out.obj _) OK.out.d0 OK.out.l0 OK.out.l1 OK.out.f0 OK.out.f1).mono ?_;intro e w2 hE;have HE:=Lib.hid hE;obtain rfl:=hE.ret;clear hE)
 go_wp2_with (fail)
 go_end0
 rw [hL.out]
 exact ⟨rfl,HE.out.obj,(HE1.out.tch.one 0 _).trans HE.out.tch⟩
theorem plain_14_0 (p : Nat) (v : Value) (s : WS) (w : World) (hp : w.heap[p]? = some (objW s v)) (ok : WOk s) (hfld : s.field = 14) :
  Calls Try.prog 156 #[.pointer (some ⟨p,0,none⟩), .int .i64 0] w (EndW w p (plainW s 0) v):=by
 have HP:=Lib.hid hp
 have hc1:=cW1 hp
 have HF:=Lib.hid hfld
 have OK:=Lib.hid ok
 have hL : Hid (plainW s 0 = nextW (endW s 0)):=Lib.hid (by
  have e0 : sumW s 0 = s:=by unfold sumW;rw [if_neg (by omega)]
  unfold plainW
  rw [e0]
  unfold takeW
  simp only [hfld]
  rfl)
 rw [hfld] at hc1
 clear hp hfld ok
 go_enter Try.func156,Try.ntmps156
 go_wp2_with (fail)
 (refine (impl_walk_end.calls p v s 0 (by omega) _ HP.out).mono ?_;intro e w1 hE1;have HE1:=Lib.hid hE1;obtain rfl:=hE1.ret;clear hE1)
 go_wp2_with (fail)
 (refine (impl_walk_next.calls p v (endW s 0) _ HE1.out.obj (by rw [endW_dlc];exact OK.out.d0) (by rw [endW_left];exact OK.out.l0) (by rw [endW_left];exact OK.out.l1) (by rw [endW_field];exact OK.out.f0) (by rw [endW_field];exact OK.out.f1)).mono ?_;intro e w2 hE;have HE:=Lib.hid hE;obtain rfl:=hE.ret;clear hE)
 go_wp2_with (fail)
 go_end0
 rw [hL.out]
 exact ⟨rfl,HE.out.obj,HE1.out.tch.trans HE.out.tch⟩
theorem plain_14_1 (p : Nat) (v : Value) (s : WS) (w : World) (hp : w.heap[p]? = some (objW s v)) (ok : WOk s) (hfld : s.field = 14) :
  Calls Try.prog 156 #[.pointer (some ⟨p,0,none⟩), .int .i64 1] w (EndW w p (plainW s 1) v):=by
 have HP:=Lib.hid hp
 have hc1:=cW1 hp
 have HF:=Lib.hid hfld
 have OK:=Lib.hid ok
 have hL : Hid (plainW s 1 = nextW (endW s 1)):=Lib.hid (by
  have e0 : sumW s 1 = s:=by unfold sumW;rw [if_neg (by omega)]
  unfold plainW
  rw [e0]
  unfold takeW
  simp only [hfld]
  rfl)
 rw [hfld] at hc1
 clear hp hfld ok
 go_enter Try.func156,Try.ntmps156
 go_wp2_with (fail)
 (refine (impl_walk_end.calls p v s 1 (by omega) _ HP.out).mono ?_;intro e w1 hE1;have HE1:=Lib.hid hE1;obtain rfl:=hE1.ret;clear hE1)
 go_wp2_with (fail)
 (refine (impl_walk_next.calls p v (endW s 1) _ HE1.out.obj (by rw [endW_dlc];exact OK.out.d0) (by rw [endW_left];exact OK.out.l0) (by rw [endW_left];exact OK.out.l1) (by rw [endW_field];exact OK.out.f0) (by rw [endW_field];exact OK.out.f1)).mono ?_;intro e w2 hE;have HE:=Lib.hid hE;obtain rfl:=hE.ret;clear hE)
 go_wp2_with (fail)
 go_end0
 rw [hL.out]
 exact ⟨rfl,HE.out.obj,HE1.out.tch.trans HE.out.tch⟩
theorem plain_lit (p : Nat) (v : Value) (s : WS) (b : Int) (hb : b = 0 ∨ b = 1) (w : World) (hp : w.heap[p]? = some (objW s v)) (ok : WOk s) (h9 : s.field ≠ 9) :
  Calls Try.prog 156 #[.pointer (some ⟨p,0,none⟩), .int .i64 b] w (EndW w p (plainW s b) v):=by
 have f0:=ok.f0
 have f1:=ok.f1
 by_cases c1 : s.field = 1
 ·rcases hb with rfl | rfl
  ·exact plain_1_0 p v s w hp ok c1
  ·exact plain_1_1 p v s w hp ok c1
 by_cases c2 : s.field = 2
 ·rcases hb with rfl | rfl
  ·exact plain_2_0 p v s w hp ok c2
  ·exact plain_2_1 p v s w hp ok c2
 by_cases c3 : s.field = 3
 ·rcases hb with rfl | rfl
  ·exact plain_3_0 p v s w hp ok c3
  ·exact plain_3_1 p v s w hp ok c3
 by_cases c4 : s.field = 4
 ·rcases hb with rfl | rfl
  ·exact plain_4_0 p v s w hp ok c4
  ·exact plain_4_1 p v s w hp ok c4
 by_cases c5 : s.field = 5
 ·rcases hb with rfl | rfl
  ·exact plain_5_0 p v s w hp ok c5
  ·exact plain_5_1 p v s w hp ok c5
 by_cases c6 : s.field = 6
 ·rcases hb with rfl | rfl
  ·exact plain_6_0 p v s w hp ok c6
  ·exact plain_6_1 p v s w hp ok c6
 by_cases c7 : s.field = 7
 ·rcases hb with rfl | rfl
  ·exact plain_7_0 p v s w hp ok c7
  ·exact plain_7_1 p v s w hp ok c7
 by_cases c8 : s.field = 8
 ·rcases hb with rfl | rfl
  ·exact plain_8_0 p v s w hp ok c8
  ·exact plain_8_1 p v s w hp ok c8
 by_cases c10 : s.field = 10
 ·rcases hb with rfl | rfl
  ·exact plain_10_0 p v s w hp ok c10
  ·exact plain_10_1 p v s w hp ok c10
 by_cases c11 : s.field = 11
 ·rcases hb with rfl | rfl
  ·exact plain_11_0 p v s w hp ok c11
  ·exact plain_11_1 p v s w hp ok c11
 by_cases c12 : s.field = 12
 ·rcases hb with rfl | rfl
  ·exact plain_12_0 p v s w hp ok c12
  ·exact plain_12_1 p v s w hp ok c12
 by_cases c13 : s.field = 13
 ·rcases hb with rfl | rfl
  ·exact plain_13_0 p v s w hp ok c13
  ·by_cases hk : crcOkW s = true
   ·exact plain_13_1_ok p v s w hp ok c13 hk
   ·exact plain_13_1_bad p v s w hp ok c13 (Bool.eq_false_iff.mpr hk)
 by_cases c14 : s.field = 14
 ·rcases hb with rfl | rfl
  ·exact plain_14_0 p v s w hp ok c14
  ·exact plain_14_1 p v s w hp ok c14
 omega
theorem impl_walk_plain.calls (p : Nat) (v : Value) (s : WS) (b : Int) (hb : b = 0 ∨ b = 1) (S : Nat → Prop) (w0 w : World) (hi : WIn w0 w p S s v) (hpl : w0.heap.size ≤ p) (hS : ¬ S p) (ok : WOk s) :
  Calls Try.prog 156 #[.pointer (some ⟨p,0,none⟩), .int .i64 b] w (EndP w0 w p S (plainW s b)):=by
 by_cases h9 : s.field = 9
 ·by_cases h8 : s.left % 8 = 0
  ·rcases hb with rfl | rfl
   ·exact plain_9_0_app p v s S w0 w hi.obj hi.row hi.below hpl hS hi.fresh ok h9 h8
   ·exact plain_9_1_app p v s S w0 w hi.obj hi.row hi.below hpl hS hi.fresh ok h9 h8
  ·rcases hb with rfl | rfl
   ·exact plain_9_0_in p v s S w0 w hi.obj hi.row hi.below hpl hS hi.fresh ok h9 h8
   ·exact plain_9_1_in p v s S w0 w hi.obj hi.row hi.below hpl hS hi.fresh ok h9 h8
 ·refine (plain_lit p v s b hb w hi.obj ok h9).mono ?_
  intro e w' h
  exact h.toP (by rw [plainW_data s b h9];exact hi.row) hS
end Go.Proofs.Ytdoclpgciadjaaa.P

namespace Go.Proofs.Ytdoclpgciadjaaa.P
open Go.RowKit Go.Proofs.YtdoclpgciadjaaaW.PrintWords Go.Proofs.YtdoclpgciadjaaaW.PrintLast Go.Proofs.YtdoclpgciadjaaaW.PrintMore
set_option linter.unusedVariables false
set_option linter.unusedSimpArgs false
theorem due_is (p : Nat) (v : Value) (s : WS) (w : World) (hp : w.heap[p]? = some (objW s v)) (k : Bool) (hk : dueW s = k) :
  Calls Try.prog 82 #[.pointer (some ⟨p,0,none⟩)] w fun e w' => e = .returned (.bool k) ∧ w = w':=by
 subst hk
 exact impl_walk_due.calls p v s w hp
theorem hear_48_stop (p : Nat) (v : Value) (s : WS) (S : Nat → Prop) (w0 w : World) (hi : WIn w0 w p S s v) (hpl : w0.heap.size ≤ p) (hS : ¬ S p) (ok : WOk s) (hd : dueW s = true) (hl : s.level = 48) :
  Calls Try.prog 134 #[.pointer (some ⟨p,0,none⟩), .int .i32 48] w (EndP w0 w p S (hearW s 48)):=by
 have HI:=Lib.hid hi
 have OK:=Lib.hid ok
 have hp:=hi.obj
 have hc0:=cW0 hp
 have hc1:=cW1 hp
 have hc3:=cW3 hp
 have hc4:=cW4 hp
 have hf0:=fW hp 0
 have hf3:=fW hp 3
 have hf4:=fW hp 4
 have r0:=ok.r0
 have r1:=ok.r1
 have HI1:=Lib.hid (hi.put hS hpl (setW0 hp 0) rfl)
 have HD : Hid (dueW { s with code:=0 } = true):=Lib.hid hd
 have HL : Hid (hearW s 48 = { s with code:=3,run:=1,level:=48 }):=Lib.hid (by unfold hearW;simp only [];rw [if_pos (show dueW { s with code:=0 } = true from hd),if_pos hl.symm])
 rw [hl] at hc4
 clear hi ok hp hd hl
 go_enter Try.func134,Try.ntmps134
 go_wp2_with (fail)
 (refine (due_is p v _ _ HI1.out.obj _ HD.out).mono ?_;rintro e w' ⟨rfl,rfl⟩)
 go_wp2_with (fail)
 go_end0
 rw [HL.out]
 have HI2:=(HI1.out.put hS hpl (setW0 HI1.out.obj 3) rfl)
 have HI3:=(HI2.put hS hpl (setW3 HI2.obj 1) rfl)
 have HI4:=(HI3.put hS hpl (setW4 HI3.obj 48) rfl)
 exact ⟨rfl,⟨v,HI4.obj,HI4.row⟩,(((((Tch.refl1 _ _).one 0 _).one 0 _).one 3 _).one 4 _).mono fun k hk => .inl hk⟩
theorem hear_48_skip (p : Nat) (v : Value) (s : WS) (S : Nat → Prop) (w0 w : World) (hi : WIn w0 w p S s v) (hpl : w0.heap.size ≤ p) (hS : ¬ S p) (ok : WOk s) (hd : dueW s = true) (hl : ¬ s.level = 48) :
  Calls Try.prog 134 #[.pointer (some ⟨p,0,none⟩), .int .i32 48] w (EndP w0 w p S (hearW s 48)):=by
 have HI:=Lib.hid hi
 have OK:=Lib.hid ok
 have hp:=hi.obj
 have hc0:=cW0 hp
 have hc1:=cW1 hp
 have hc3:=cW3 hp
 have hc4:=cW4 hp
 have hf0:=fW hp 0
 have hf3:=fW hp 3
 have hf4:=fW hp 4
 have r0:=ok.r0
 have r1:=ok.r1
 have HI1:=Lib.hid (hi.put hS hpl (setW0 hp 0) rfl)
 have HD : Hid (dueW { s with code:=0 } = true):=Lib.hid hd
 have HL : Hid (hearW s 48 = { s with code:=0,run:=1,level:=48 }):=Lib.hid (by unfold hearW;simp only [];rw [if_pos (show dueW { s with code:=0 } = true from hd),if_neg (fun h => hl h.symm)])
 have bl : (s.level == 48) = false:=by simp [hl]
 have bl2 : ((48 : Int) == s.level) = false:=by simp;omega
 clear hi ok hp hd hl
 go_enter Try.func134,Try.ntmps134
 go_wp2_with (fail)
 (refine (due_is p v _ _ HI1.out.obj _ HD.out).mono ?_;rintro e w' ⟨rfl,rfl⟩)
 go_wp2_with (fail)
 go_end0
 rw [HL.out]
 have HI3:=(HI1.out.put hS hpl (setW3 HI1.out.obj 1) rfl)
 have HI4:=(HI3.put hS hpl (setW4 HI3.obj 48) rfl)
 exact ⟨rfl,⟨v,HI4.obj,HI4.row⟩,((((Tch.refl1 _ _).one 0 _).one 3 _).one 4 _).mono fun k hk => .inl hk⟩
theorem hear_48_more (p : Nat) (v : Value) (s : WS) (S : Nat → Prop) (w0 w : World) (hi : WIn w0 w p S s v) (hpl : w0.heap.size ≤ p) (hS : ¬ S p) (ok : WOk s) (hd : dueW s = false) (hf : s.field ≤ 10) (hr : 0 < s.run) (hl : s.level = 48) :
  Calls Try.prog 134 #[.pointer (some ⟨p,0,none⟩), .int .i32 48] w (EndP w0 w p S (hearW s 48)):=by
 have HI:=Lib.hid hi
 have OK:=Lib.hid ok
 have hp:=hi.obj
 have hc0:=cW0 hp
 have hc1:=cW1 hp
 have hc3:=cW3 hp
 have hc4:=cW4 hp
 have hf0:=fW hp 0
 have hf3:=fW hp 3
 have hf4:=fW hp 4
 have r0:=ok.r0
 have r1:=ok.r1
 have HI1:=Lib.hid (hi.put hS hpl (setW0 hp 0) rfl)
 have HD : Hid (dueW { s with code:=0 } = false):=Lib.hid hd
 have HL : Hid (hearW s 48 = plainW { s with code:=0,run:=s.run + 1 } 0):=Lib.hid (by unfold hearW;simp only [];rw [if_neg (by rw [show dueW { s with code:=0 } = false from hd];decide),if_pos hf,if_pos ⟨hr,hl⟩];rfl)
 have HR : Hid (s.field ≤ 10 → s.run ≤ 4):=Lib.hid (fun hf2 => run_le4 hd hf2 r1)
 rw [hl] at hc4
 have bf : decide (s.field ≤ 10) = true:=decide_eq_true hf
 have br : decide (0 < s.run) = true:=decide_eq_true hr
 have HFF:=Lib.hid hf
 clear hi ok hp hd hl hf hr
 go_enter Try.func134,Try.ntmps134
 go_wp2_with (fail)
 (refine (due_is p v _ _ HI1.out.obj _ HD.out).mono ?_;rintro e w' ⟨rfl,rfl⟩)
 go_wp2_with (fail)
 have HI3:=Lib.hid (HI1.out.put hS hpl (setW3 HI1.out.obj (s.run + 1)) rfl)
 (refine (impl_walk_plain.calls p v _ 0 (by omega) S w0 _ HI3.out hpl hS ⟨OK.out.f0,OK.out.f1,OK.out.l0,OK.out.l1,by simp only [];omega,by have:=HR.out HFF.out;simp only [];omega,OK.out.d0,OK.out.d1,OK.out.g0,OK.out.g1,OK.out.i0,OK.out.i1,OK.out.ne,OK.out.by_,OK.out.dl⟩).mono ?_;intro e w2 hE;have HE:=Lib.hid hE;obtain rfl:=hE.ret;clear hE)
 go_wp2_with (fail)
 go_end0
 rw [HL.out]
 exact ⟨rfl,HE.out.at_,((((Tch.refl1 _ _).one 0 _).one 3 _).mono fun k hk => .inl hk).trans HE.out.tch⟩
theorem hear_48_first (p : Nat) (v : Value) (s : WS) (S : Nat → Prop) (w0 w : World) (hi : WIn w0 w p S s v) (hpl : w0.heap.size ≤ p) (hS : ¬ S p) (ok : WOk s) (hd : dueW s = false) (hf : s.field ≤ 10) (hr : ¬ 0 < s.run) :
  Calls Try.prog 134 #[.pointer (some ⟨p,0,none⟩), .int .i32 48] w (EndP w0 w p S (hearW s 48)):=by
 have HI:=Lib.hid hi
 have OK:=Lib.hid ok
 have hp:=hi.obj
 have hc0:=cW0 hp
 have hc1:=cW1 hp
 have hc3:=cW3 hp
 have hc4:=cW4 hp
 have hf0:=fW hp 0
 have hf3:=fW hp 3
 have hf4:=fW hp 4
 have r0:=ok.r0
 have r1:=ok.r1
 have HI1:=Lib.hid (hi.put hS hpl (setW0 hp 0) rfl)
 have HD : Hid (dueW { s with code:=0 } = false):=Lib.hid hd
 have HL : Hid (hearW s 48 = plainW { s with code:=0,run:=1,level:=48 } 0):=Lib.hid (by unfold hearW;simp only [];rw [if_neg (by rw [show dueW { s with code:=0 } = false from hd];decide),if_pos hf,if_neg (fun h => hr h.1)];rfl)
 have HR : Hid (s.field ≤ 10 → s.run ≤ 4):=Lib.hid (fun hf2 => run_le4 hd hf2 r1)
 have bf : decide (s.field ≤ 10) = true:=decide_eq_true hf
 have br : decide (0 < s.run) = false:=decide_eq_false hr
 have HFF:=Lib.hid hf
 clear hi ok hp hd hf hr
 go_enter Try.func134,Try.ntmps134
 go_wp2_with (fail)
 (refine (due_is p v _ _ HI1.out.obj _ HD.out).mono ?_;rintro e w' ⟨rfl,rfl⟩)
 go_wp2_with (fail)
 have HI3:=(HI1.out.put hS hpl (setW3 HI1.out.obj 1) rfl)
 have HI4:=Lib.hid (HI3.put hS hpl (setW4 HI3.obj 48) rfl)
 clear HI3
 (refine (impl_walk_plain.calls p v _ 0 (by omega) S w0 _ HI4.out hpl hS ⟨OK.out.f0,OK.out.f1,OK.out.l0,OK.out.l1,by simp only [];omega,by simp only [];omega,OK.out.d0,OK.out.d1,OK.out.g0,OK.out.g1,OK.out.i0,OK.out.i1,OK.out.ne,OK.out.by_,OK.out.dl⟩).mono ?_;intro e w2 hE;have HE:=Lib.hid hE;obtain rfl:=hE.ret;clear hE)
 go_wp2_with (fail)
 go_end0
 rw [HL.out]
 exact ⟨rfl,HE.out.at_,(((((Tch.refl1 _ _).one 0 _).one 3 _).one 4 _).mono fun k hk => .inl hk).trans HE.out.tch⟩
theorem hear_48_turn (p : Nat) (v : Value) (s : WS) (S : Nat → Prop) (w0 w : World) (hi : WIn w0 w p S s v) (hpl : w0.heap.size ≤ p) (hS : ¬ S p) (ok : WOk s) (hd : dueW s = false) (hf : s.field ≤ 10) (hr : 0 < s.run) (hl : ¬ s.level = 48) :
  Calls Try.prog 134 #[.pointer (some ⟨p,0,none⟩), .int .i32 48] w (EndP w0 w p S (hearW s 48)):=by
 have HI:=Lib.hid hi
 have OK:=Lib.hid ok
 have hp:=hi.obj
 have hc0:=cW0 hp
 have hc1:=cW1 hp
 have hc3:=cW3 hp
 have hc4:=cW4 hp
 have hf0:=fW hp 0
 have hf3:=fW hp 3
 have hf4:=fW hp 4
 have r0:=ok.r0
 have r1:=ok.r1
 have HI1:=Lib.hid (hi.put hS hpl (setW0 hp 0) rfl)
 have HD : Hid (dueW { s with code:=0 } = false):=Lib.hid hd
 have HL : Hid (hearW s 48 = plainW { s with code:=0,run:=1,level:=48 } 0):=Lib.hid (by unfold hearW;simp only [];rw [if_neg (by rw [show dueW { s with code:=0 } = false from hd];decide),if_pos hf,if_neg (fun h => hl h.2)];rfl)
 have HR : Hid (s.field ≤ 10 → s.run ≤ 4):=Lib.hid (fun hf2 => run_le4 hd hf2 r1)
 have bl : (s.level == 48) = false:=by simp [hl]
 have bl2 : ((48 : Int) == s.level) = false:=by simp;omega
 have bf : decide (s.field ≤ 10) = true:=decide_eq_true hf
 have br : decide (0 < s.run) = true:=decide_eq_true hr
 have HFF:=Lib.hid hf
 clear hi ok hp hd hl hf hr
 go_enter Try.func134,Try.ntmps134
 go_wp2_with (fail)
 (refine (due_is p v _ _ HI1.out.obj _ HD.out).mono ?_;rintro e w' ⟨rfl,rfl⟩)
 go_wp2_with (fail)
 have HI3:=(HI1.out.put hS hpl (setW3 HI1.out.obj 1) rfl)
 have HI4:=Lib.hid (HI3.put hS hpl (setW4 HI3.obj 48) rfl)
 clear HI3
 (refine (impl_walk_plain.calls p v _ 0 (by omega) S w0 _ HI4.out hpl hS ⟨OK.out.f0,OK.out.f1,OK.out.l0,OK.out.l1,by simp only [];omega,by simp only [];omega,OK.out.d0,OK.out.d1,OK.out.g0,OK.out.g1,OK.out.i0,OK.out.i1,OK.out.ne,OK.out.by_,OK.out.dl⟩).mono ?_;intro e w2 hE;have HE:=Lib.hid hE;obtain rfl:=hE.ret;clear hE)
 go_wp2_with (fail)
 go_end0
 rw [HL.out]
 exact ⟨rfl,HE.out.at_,(((((Tch.refl1 _ _).one 0 _).one 3 _).one 4 _).mono fun k hk => .inl hk).trans HE.out.tch⟩
theorem hear_48_late (p : Nat) (v : Value) (s : WS) (S : Nat → Prop) (w0 w : World) (hi : WIn w0 w p S s v) (hpl : w0.heap.size ≤ p) (hS : ¬ S p) (ok : WOk s) (hd : dueW s = false) (hf : ¬ s.field ≤ 10) :
  Calls Try.prog 134 #[.pointer (some ⟨p,0,none⟩), .int .i32 48] w (EndP w0 w p S (hearW s 48)):=by
 have HI:=Lib.hid hi
 have OK:=Lib.hid ok
 have hp:=hi.obj
 have hc0:=cW0 hp
 have hc1:=cW1 hp
 have hc3:=cW3 hp
 have hc4:=cW4 hp
 have hf0:=fW hp 0
 have hf3:=fW hp 3
 have hf4:=fW hp 4
 have r0:=ok.r0
 have r1:=ok.r1
 have HI1:=Lib.hid (hi.put hS hpl (setW0 hp 0) rfl)
 have HD : Hid (dueW { s with code:=0 } = false):=Lib.hid hd
 have HL : Hid (hearW s 48 = plainW { s with code:=0,run:=0 } 0):=Lib.hid (by unfold hearW;simp only [];rw [if_neg (by rw [show dueW { s with code:=0 } = false from hd];decide),if_neg hf];rfl)
 have HR : Hid (s.field ≤ 10 → s.run ≤ 4):=Lib.hid (fun hf2 => run_le4 hd hf2 r1)
 have bf : decide (s.field ≤ 10) = false:=decide_eq_false hf
 have HFF:=Lib.hid hf
 clear hi ok hp hd hf
 go_enter Try.func134,Try.ntmps134
 go_wp2_with (fail)
 (refine (due_is p v _ _ HI1.out.obj _ HD.out).mono ?_;rintro e w' ⟨rfl,rfl⟩)
 go_wp2_with (fail)
 have HI3:=Lib.hid (HI1.out.put hS hpl (setW3 HI1.out.obj 0) rfl)
 (refine (impl_walk_plain.calls p v _ 0 (by omega) S w0 _ HI3.out hpl hS ⟨OK.out.f0,OK.out.f1,OK.out.l0,OK.out.l1,by simp only [];omega,by simp only [];omega,OK.out.d0,OK.out.d1,OK.out.g0,OK.out.g1,OK.out.i0,OK.out.i1,OK.out.ne,OK.out.by_,OK.out.dl⟩).mono ?_;intro e w2 hE;have HE:=Lib.hid hE;obtain rfl:=hE.ret;clear hE)
 go_wp2_with (fail)
 go_end0
 rw [HL.out]
 exact ⟨rfl,HE.out.at_,((((Tch.refl1 _ _).one 0 _).one 3 _).mono fun k hk => .inl hk).trans HE.out.tch⟩
theorem hear_49_stop (p : Nat) (v : Value) (s : WS) (S : Nat → Prop) (w0 w : World) (hi : WIn w0 w p S s v) (hpl : w0.heap.size ≤ p) (hS : ¬ S p) (ok : WOk s) (hd : dueW s = true) (hl : s.level = 49) :
  Calls Try.prog 134 #[.pointer (some ⟨p,0,none⟩), .int .i32 49] w (EndP w0 w p S (hearW s 49)):=by
 have HI:=Lib.hid hi
 have OK:=Lib.hid ok
 have hp:=hi.obj
 have hc0:=cW0 hp
 have hc1:=cW1 hp
 have hc3:=cW3 hp
 have hc4:=cW4 hp
 have hf0:=fW hp 0
 have hf3:=fW hp 3
 have hf4:=fW hp 4
 have r0:=ok.r0
 have r1:=ok.r1
 have HI1:=Lib.hid (hi.put hS hpl (setW0 hp 0) rfl)
 have HD : Hid (dueW { s with code:=0 } = true):=Lib.hid hd
 have HL : Hid (hearW s 49 = { s with code:=3,run:=1,level:=49 }):=Lib.hid (by unfold hearW;simp only [];rw [if_pos (show dueW { s with code:=0 } = true from hd),if_pos hl.symm])
 rw [hl] at hc4
 clear hi ok hp hd hl
 go_enter Try.func134,Try.ntmps134
 go_wp2_with (fail)
 (refine (due_is p v _ _ HI1.out.obj _ HD.out).mono ?_;rintro e w' ⟨rfl,rfl⟩)
 go_wp2_with (fail)
 go_end0
 rw [HL.out]
 have HI2:=(HI1.out.put hS hpl (setW0 HI1.out.obj 3) rfl)
 have HI3:=(HI2.put hS hpl (setW3 HI2.obj 1) rfl)
 have HI4:=(HI3.put hS hpl (setW4 HI3.obj 49) rfl)
 exact ⟨rfl,⟨v,HI4.obj,HI4.row⟩,(((((Tch.refl1 _ _).one 0 _).one 0 _).one 3 _).one 4 _).mono fun k hk => .inl hk⟩
theorem hear_49_skip (p : Nat) (v : Value) (s : WS) (S : Nat → Prop) (w0 w : World) (hi : WIn w0 w p S s v) (hpl : w0.heap.size ≤ p) (hS : ¬ S p) (ok : WOk s) (hd : dueW s = true) (hl : ¬ s.level = 49) :
  Calls Try.prog 134 #[.pointer (some ⟨p,0,none⟩), .int .i32 49] w (EndP w0 w p S (hearW s 49)):=by
 have HI:=Lib.hid hi
 have OK:=Lib.hid ok
 have hp:=hi.obj
 have hc0:=cW0 hp
 have hc1:=cW1 hp
 have hc3:=cW3 hp
 have hc4:=cW4 hp
 have hf0:=fW hp 0
 have hf3:=fW hp 3
 have hf4:=fW hp 4
 have r0:=ok.r0
 have r1:=ok.r1
 have HI1:=Lib.hid (hi.put hS hpl (setW0 hp 0) rfl)
 have HD : Hid (dueW { s with code:=0 } = true):=Lib.hid hd
 have HL : Hid (hearW s 49 = { s with code:=0,run:=1,level:=49 }):=Lib.hid (by unfold hearW;simp only [];rw [if_pos (show dueW { s with code:=0 } = true from hd),if_neg (fun h => hl h.symm)])
 have bl : (s.level == 49) = false:=by simp [hl]
 have bl2 : ((49 : Int) == s.level) = false:=by simp;omega
 clear hi ok hp hd hl
 go_enter Try.func134,Try.ntmps134
 go_wp2_with (fail)
 (refine (due_is p v _ _ HI1.out.obj _ HD.out).mono ?_;rintro e w' ⟨rfl,rfl⟩)
 go_wp2_with (fail)
 go_end0
 rw [HL.out]
 have HI3:=(HI1.out.put hS hpl (setW3 HI1.out.obj 1) rfl)
 have HI4:=(HI3.put hS hpl (setW4 HI3.obj 49) rfl)
 exact ⟨rfl,⟨v,HI4.obj,HI4.row⟩,((((Tch.refl1 _ _).one 0 _).one 3 _).one 4 _).mono fun k hk => .inl hk⟩
theorem hear_49_more (p : Nat) (v : Value) (s : WS) (S : Nat → Prop) (w0 w : World) (hi : WIn w0 w p S s v) (hpl : w0.heap.size ≤ p) (hS : ¬ S p) (ok : WOk s) (hd : dueW s = false) (hf : s.field ≤ 10) (hr : 0 < s.run) (hl : s.level = 49) :
  Calls Try.prog 134 #[.pointer (some ⟨p,0,none⟩), .int .i32 49] w (EndP w0 w p S (hearW s 49)):=by
 have HI:=Lib.hid hi
 have OK:=Lib.hid ok
 have hp:=hi.obj
 have hc0:=cW0 hp
 have hc1:=cW1 hp
 have hc3:=cW3 hp
 have hc4:=cW4 hp
 have hf0:=fW hp 0
 have hf3:=fW hp 3
 have hf4:=fW hp 4
 have r0:=ok.r0
 have r1:=ok.r1
 have HI1:=Lib.hid (hi.put hS hpl (setW0 hp 0) rfl)
 have HD : Hid (dueW { s with code:=0 } = false):=Lib.hid hd
 have HL : Hid (hearW s 49 = plainW { s with code:=0,run:=s.run + 1 } 1):=Lib.hid (by unfold hearW;simp only [];rw [if_neg (by rw [show dueW { s with code:=0 } = false from hd];decide),if_pos hf,if_pos ⟨hr,hl⟩];rfl)
 have HR : Hid (s.field ≤ 10 → s.run ≤ 4):=Lib.hid (fun hf2 => run_le4 hd hf2 r1)
 rw [hl] at hc4
 have bf : decide (s.field ≤ 10) = true:=decide_eq_true hf
 have br : decide (0 < s.run) = true:=decide_eq_true hr
 have HFF:=Lib.hid hf
 clear hi ok hp hd hl hf hr
 go_enter Try.func134,Try.ntmps134
 go_wp2_with (fail)
 (refine (due_is p v _ _ HI1.out.obj _ HD.out).mono ?_;rintro e w' ⟨rfl,rfl⟩)
 go_wp2_with (fail)
 have HI3:=Lib.hid (HI1.out.put hS hpl (setW3 HI1.out.obj (s.run + 1)) rfl)
 (refine (impl_walk_plain.calls p v _ 1 (by omega) S w0 _ HI3.out hpl hS ⟨OK.out.f0,OK.out.f1,OK.out.l0,OK.out.l1,by simp only [];omega,by have:=HR.out HFF.out;simp only [];omega,OK.out.d0,OK.out.d1,OK.out.g0,OK.out.g1,OK.out.i0,OK.out.i1,OK.out.ne,OK.out.by_,OK.out.dl⟩).mono ?_;intro e w2 hE;have HE:=Lib.hid hE;obtain rfl:=hE.ret;clear hE)
 go_wp2_with (fail)
 go_end0
 rw [HL.out]
 exact ⟨rfl,HE.out.at_,((((Tch.refl1 _ _).one 0 _).one 3 _).mono fun k hk => .inl hk).trans HE.out.tch⟩
theorem hear_49_first (p : Nat) (v : Value) (s : WS) (S : Nat → Prop) (w0 w : World) (hi : WIn w0 w p S s v) (hpl : w0.heap.size ≤ p) (hS : ¬ S p) (ok : WOk s) (hd : dueW s = false) (hf : s.field ≤ 10) (hr : ¬ 0 < s.run) :
  Calls Try.prog 134 #[.pointer (some ⟨p,0,none⟩), .int .i32 49] w (EndP w0 w p S (hearW s 49)):=by
 have HI:=Lib.hid hi
 have OK:=Lib.hid ok
 have hp:=hi.obj
 have hc0:=cW0 hp
 have hc1:=cW1 hp
 have hc3:=cW3 hp
 have hc4:=cW4 hp
 have hf0:=fW hp 0
 have hf3:=fW hp 3
 have hf4:=fW hp 4
 have r0:=ok.r0
 have r1:=ok.r1
 have HI1:=Lib.hid (hi.put hS hpl (setW0 hp 0) rfl)
 have HD : Hid (dueW { s with code:=0 } = false):=Lib.hid hd
 have HL : Hid (hearW s 49 = plainW { s with code:=0,run:=1,level:=49 } 1):=Lib.hid (by unfold hearW;simp only [];rw [if_neg (by rw [show dueW { s with code:=0 } = false from hd];decide),if_pos hf,if_neg (fun h => hr h.1)];rfl)
 have HR : Hid (s.field ≤ 10 → s.run ≤ 4):=Lib.hid (fun hf2 => run_le4 hd hf2 r1)
 have bf : decide (s.field ≤ 10) = true:=decide_eq_true hf
 have br : decide (0 < s.run) = false:=decide_eq_false hr
 have HFF:=Lib.hid hf
 clear hi ok hp hd hf hr
 go_enter Try.func134,Try.ntmps134
 go_wp2_with (fail)
 (refine (due_is p v _ _ HI1.out.obj _ HD.out).mono ?_;rintro e w' ⟨rfl,rfl⟩)
 go_wp2_with (fail)
 have HI3:=(HI1.out.put hS hpl (setW3 HI1.out.obj 1) rfl)
 have HI4:=Lib.hid (HI3.put hS hpl (setW4 HI3.obj 49) rfl)
 clear HI3
 (refine (impl_walk_plain.calls p v _ 1 (by omega) S w0 _ HI4.out hpl hS ⟨OK.out.f0,OK.out.f1,OK.out.l0,OK.out.l1,by simp only [];omega,by simp only [];omega,OK.out.d0,OK.out.d1,OK.out.g0,OK.out.g1,OK.out.i0,OK.out.i1,OK.out.ne,OK.out.by_,OK.out.dl⟩).mono ?_;intro e w2 hE;have HE:=Lib.hid hE;obtain rfl:=hE.ret;clear hE)
 go_wp2_with (fail)
 go_end0
 rw [HL.out]
 exact ⟨rfl,HE.out.at_,(((((Tch.refl1 _ _).one 0 _).one 3 _).one 4 _).mono fun k hk => .inl hk).trans HE.out.tch⟩
theorem hear_49_turn (p : Nat) (v : Value) (s : WS) (S : Nat → Prop) (w0 w : World) (hi : WIn w0 w p S s v) (hpl : w0.heap.size ≤ p) (hS : ¬ S p) (ok : WOk s) (hd : dueW s = false) (hf : s.field ≤ 10) (hr : 0 < s.run) (hl : ¬ s.level = 49) :
  Calls Try.prog 134 #[.pointer (some ⟨p,0,none⟩), .int .i32 49] w (EndP w0 w p S (hearW s 49)):=by
 have HI:=Lib.hid hi
 have OK:=Lib.hid ok
 have hp:=hi.obj
 have hc0:=cW0 hp
 have hc1:=cW1 hp
 have hc3:=cW3 hp
 have hc4:=cW4 hp
 have hf0:=fW hp 0
 have hf3:=fW hp 3
 have hf4:=fW hp 4
 have r0:=ok.r0
 have r1:=ok.r1
 have HI1:=Lib.hid (hi.put hS hpl (setW0 hp 0) rfl)
 have HD : Hid (dueW { s with code:=0 } = false):=Lib.hid hd
 have HL : Hid (hearW s 49 = plainW { s with code:=0,run:=1,level:=49 } 1):=Lib.hid (by unfold hearW;simp only [];rw [if_neg (by rw [show dueW { s with code:=0 } = false from hd];decide),if_pos hf,if_neg (fun h => hl h.2)];rfl)
 have HR : Hid (s.field ≤ 10 → s.run ≤ 4):=Lib.hid (fun hf2 => run_le4 hd hf2 r1)
 have bl : (s.level == 49) = false:=by simp [hl]
 have bl2 : ((49 : Int) == s.level) = false:=by simp;omega
 have bf : decide (s.field ≤ 10) = true:=decide_eq_true hf
 have br : decide (0 < s.run) = true:=decide_eq_true hr
 have HFF:=Lib.hid hf
 clear hi ok hp hd hl hf hr
 go_enter Try.func134,Try.ntmps134
 go_wp2_with (fail)
 (refine (due_is p v _ _ HI1.out.obj _ HD.out).mono ?_;rintro e w' ⟨rfl,rfl⟩)
 go_wp2_with (fail)
 have HI3:=(HI1.out.put hS hpl (setW3 HI1.out.obj 1) rfl)
 have HI4:=Lib.hid (HI3.put hS hpl (setW4 HI3.obj 49) rfl)
 clear HI3
 (refine (impl_walk_plain.calls p v _ 1 (by omega) S w0 _ HI4.out hpl hS ⟨OK.out.f0,OK.out.f1,OK.out.l0,OK.out.l1,by simp only [];omega,by simp only [];omega,OK.out.d0,OK.out.d1,OK.out.g0,OK.out.g1,OK.out.i0,OK.out.i1,OK.out.ne,OK.out.by_,OK.out.dl⟩).mono ?_;intro e w2 hE;have HE:=Lib.hid hE;obtain rfl:=hE.ret;clear hE)
 go_wp2_with (fail)
 go_end0
 rw [HL.out]
 exact ⟨rfl,HE.out.at_,(((((Tch.refl1 _ _).one 0 _).one 3 _).one 4 _).mono fun k hk => .inl hk).trans HE.out.tch⟩
theorem hear_49_late (p : Nat) (v : Value) (s : WS) (S : Nat → Prop) (w0 w : World) (hi : WIn w0 w p S s v) (hpl : w0.heap.size ≤ p) (hS : ¬ S p) (ok : WOk s) (hd : dueW s = false) (hf : ¬ s.field ≤ 10) :
  Calls Try.prog 134 #[.pointer (some ⟨p,0,none⟩), .int .i32 49] w (EndP w0 w p S (hearW s 49)):=by
 have HI:=Lib.hid hi
 have OK:=Lib.hid ok
 have hp:=hi.obj
 have hc0:=cW0 hp
 have hc1:=cW1 hp
 have hc3:=cW3 hp
 have hc4:=cW4 hp
 have hf0:=fW hp 0
 have hf3:=fW hp 3
 have hf4:=fW hp 4
 have r0:=ok.r0
 have r1:=ok.r1
 have HI1:=Lib.hid (hi.put hS hpl (setW0 hp 0) rfl)
 have HD : Hid (dueW { s with code:=0 } = false):=Lib.hid hd
 have HL : Hid (hearW s 49 = plainW { s with code:=0,run:=0 } 1):=Lib.hid (by unfold hearW;simp only [];rw [if_neg (by rw [show dueW { s with code:=0 } = false from hd];decide),if_neg hf];rfl)
 have HR : Hid (s.field ≤ 10 → s.run ≤ 4):=Lib.hid (fun hf2 => run_le4 hd hf2 r1)
 have bf : decide (s.field ≤ 10) = false:=decide_eq_false hf
 have HFF:=Lib.hid hf
 clear hi ok hp hd hf
 go_enter Try.func134,Try.ntmps134
 go_wp2_with (fail)
 (refine (due_is p v _ _ HI1.out.obj _ HD.out).mono ?_;rintro e w' ⟨rfl,rfl⟩)
 go_wp2_with (fail)
 have HI3:=Lib.hid (HI1.out.put hS hpl (setW3 HI1.out.obj 0) rfl)
 (refine (impl_walk_plain.calls p v _ 1 (by omega) S w0 _ HI3.out hpl hS ⟨OK.out.f0,OK.out.f1,OK.out.l0,OK.out.l1,by simp only [];omega,by simp only [];omega,OK.out.d0,OK.out.d1,OK.out.g0,OK.out.g1,OK.out.i0,OK.out.i1,OK.out.ne,OK.out.by_,OK.out.dl⟩).mono ?_;intro e w2 hE;have HE:=Lib.hid hE;obtain rfl:=hE.ret;clear hE)
 go_wp2_with (fail)
 go_end0
 rw [HL.out]
 exact ⟨rfl,HE.out.at_,((((Tch.refl1 _ _).one 0 _).one 3 _).mono fun k hk => .inl hk).trans HE.out.tch⟩
theorem impl_walk_hear.calls (p : Nat) (v : Value) (s : WS) (c : Int) (hc : c = 48 ∨ c = 49) (S : Nat → Prop) (w0 w : World) (hi : WIn w0 w p S s v) (hpl : w0.heap.size ≤ p) (hS : ¬ S p) (ok : WOk s) :
  Calls Try.prog 134 #[.pointer (some ⟨p,0,none⟩), .int .i32 c] w (EndP w0 w p S (hearW s c)):=by
 rcases hc with rfl | rfl
 ·cases hd : dueW s with
  | true =>
   by_cases hl : s.level = 48
   ·exact hear_48_stop p v s S w0 w hi hpl hS ok hd hl
   ·exact hear_48_skip p v s S w0 w hi hpl hS ok hd hl
  | false =>
   by_cases hf : s.field ≤ 10
   ·by_cases hr : 0 < s.run
    ·by_cases hl : s.level = 48
     ·exact hear_48_more p v s S w0 w hi hpl hS ok hd hf hr hl
     ·exact hear_48_turn p v s S w0 w hi hpl hS ok hd hf hr hl
    ·exact hear_48_first p v s S w0 w hi hpl hS ok hd hf hr
   ·exact hear_48_late p v s S w0 w hi hpl hS ok hd hf
 ·cases hd : dueW s with
  | true =>
   by_cases hl : s.level = 49
   ·exact hear_49_stop p v s S w0 w hi hpl hS ok hd hl
   ·exact hear_49_skip p v s S w0 w hi hpl hS ok hd hl
  | false =>
   by_cases hf : s.field ≤ 10
   ·by_cases hr : 0 < s.run
    ·by_cases hl : s.level = 49
     ·exact hear_49_more p v s S w0 w hi hpl hS ok hd hf hr hl
     ·exact hear_49_turn p v s S w0 w hi hpl hS ok hd hf hr hl
    ·exact hear_49_first p v s S w0 w hi hpl hS ok hd hf hr
   ·exact hear_49_late p v s S w0 w hi hpl hS ok hd hf
end Go.Proofs.Ytdoclpgciadjaaa.P
