/- Texts of the proof of CFnScanner, joined. -/
import Derived.Test.YtdoclpgciadjaaaDoorSCFnScanner24
import Derived.Test.YtdoclpgciadjaaaDoorSCFnScanner31
import Derived.Test.YtdoclpgciadjaaaDoorSCFnScanner21
import Derived.Test.YtdoclpgciadjaaaDoorSCFnScanner27
import Derived.Deep.QuietTactic
import Derived.BigQuiet
import Derived.Test.YtdoclpgciadjaaaDoorSCFnScanner25
import Derived.Test.YtdoclpgciadjaaaDoorSCFnScanner30
import Derived.Deep.RegionWith
import Derived.Lib.Strings
import Derived.Test.YtdoclpgciadjaaaDoorSCFnScanner28
import Derived.Test.YtdoclpgciadjaaaDoorSCFnScanner29
import Derived.Deep.RegionHeld
import Derived.Deep.Slices
import Derived.Deep.Fields
import Derived.ChangeSame
import Derived.WideShapes
namespace Go.Proofs.YtdoclpgciadjaaaDoor.P
open Go Go.RowKit Go.Proofs.YtdoclpgciadjaaaDoorW.PrintWords
set_option linter.unusedVariables false
theorem l1num_ev (n : Nat) : ∀ (u : Nat),u < 4294967296 → n ≤ 64 → Ev (fun k => spec_l1num.f k (u : Int) (n : Int)) (strOfNums (numL u n)):=by
 induction n with
 | zero =>
  intro u hu hn
  refine Ev.step (f:=fun _ => some (⟨#[]⟩ : ByteArray)) (fun k => ?_) (Ev.now _)
  simp only [spec_l1num.f]
  rw [if_pos (by omega)]
 | succ n ih =>
  intro u hu hn
  have ih':=ih (u / 2) (by omega) (by omega)
  have e1 : wrap64 (Int.tdiv (u : Int) 2) = ((u / 2 : Nat) : Int):=by
   rw [Int.tdiv_eq_ediv_of_nonneg (by omega)];unfold wrap64;omega
  have e2 : wrap64 (((n + 1 : Nat) : Int) - 1) = (n : Int):=by unfold wrap64;omega
  have e3 : Int.tmod (u : Int) 2 = ((u % 2 : Nat) : Int):=by rw [Int.tmod_eq_emod_of_nonneg (by omega)];omega
  have hsz : (strOfNums (numL (u / 2) n)).size + 1 ≤ 9223372036854775807:=by rw [strOfNums_size,numL_length];omega
  by_cases c : u % 2 = 1
  ·refine Ev.step (f:=fun k => (spec_l1num.f k ((u / 2 : Nat) : Int) (n : Int)).bind fun t => if t.size + 1 ≤ 9223372036854775807 then some (t ++ (⟨#[49]⟩ : ByteArray)) else none) (fun k => ?_) (Ev.bind ih' (ev_pos hsz ?_))
   ·simp only [spec_l1num.f]
    rw [if_neg (by omega),e3,if_pos (by omega),e1,e2]
   ·rw [numL_snoc,c,str_append];exact Ev.now _
  ·refine Ev.step (f:=fun k => (spec_l1num.f k ((u / 2 : Nat) : Int) (n : Int)).bind fun t => if t.size + 1 ≤ 9223372036854775807 then some (t ++ (⟨#[48]⟩ : ByteArray)) else none) (fun k => ?_) (Ev.bind ih' (ev_pos hsz ?_))
   ·simp only [spec_l1num.f]
    rw [if_neg (by omega),e3,if_neg (by omega),e1,e2]
   ·rw [numL_snoc,show u % 2 = 0 by omega,str_append];exact Ev.now _
theorem l1flag_eq (b : Bool) : spec_l1flag.f b = some (strOfNums (flagL b)):=by cases b <;> rfl
end Go.Proofs.YtdoclpgciadjaaaDoor.P
namespace Go.Proofs.YtdoclpgciadjaaaDoor.P
open Go.RowKit Go.Proofs.YtdoclpgciadjaaaDoorW.PrintWords Go.Proofs.YtdoclpgciadjaaaDoorW.PrintLast Go.Proofs.YtdoclpgciadjaaaDoorW.PrintMore
set_option linter.unusedVariables false
set_option linter.unusedSimpArgs false
def spec_Body.f (a0_0 : Bool) (a0_1 : Int) (a0_2 : Bool) (a0_3 : Int) (l0_4 : List Int) : Option (ByteArray):=if 0 ≤ a0_1 ∧ okBytes l0_4 = true then some (bodyV a0_0 a0_1 a0_2 a0_3 l0_4) else none
theorem spec_l1num.at (x y : Int) (u n : Nat) (w : World) (hx : x = (u : Int)) (hu : u < 4294967296) (hy : y = (n : Int)) (hn : n ≤ 64) :
  Calls Tryd.prog 59 #[.int .i64 x, .int .i64 y] w fun e w' => e = .returned (.string (strOfNums (numL u n))) ∧ ∃ m,w' = w.drewN m:=by
 subst hx hy
 obtain ⟨k,hk⟩:=(l1num_ev n u hu hn).rounds
 exact (spec_l1num.calls k _ _ _ w hk).mono fun e w' ⟨he,hd⟩ => ⟨he,hd.out⟩
theorem spec_l1flag.at (b : Bool) (w : World) :
  Calls Tryd.prog 74 #[.bool b] w fun e w' => e = .returned (.string (strOfNums (flagL b))) ∧ ∃ m,w' = w.drewN m :=
 (spec_l1flag.calls b _ w (l1flag_eq b)).mono fun e w' ⟨he,hd⟩ => ⟨he,hd.out⟩
theorem spec_ValidFrame.at (ext : Bool) (id : Int) (rtr : Bool) (dlc : Int) (A : Option Addr) (c : Nat) (l : List Int) (w : World) (hr : Kd.C (Kd.int .u8) w A l.length l) (hc : l.length ≤ c) (b : Bool) (hv : validF ext id rtr dlc l.length = b) :
  Calls Tryd.prog 73 #[.agg #[.bool ext, .int .u32 id, .bool rtr, .int .i64 dlc, .slice A l.length c]] w fun e w' => e = .returned (.bool b) ∧ Below w.heap.size w w':=by
 subst hv
 obtain ⟨k,hk⟩:=(specValid_ev ext id rtr dlc l).rounds
 exact spec_ValidFrame.calls k ext id rtr dlc A c l _ w hr hc hk
theorem below_drewN {B : Nat} {a w : World} (h : Below B a w) (n : Nat) : Below B a (w.drewN n):=⟨h.os,h.tape,h.output,h.size,h.block⟩
theorem str0 : (⟨#[48]⟩ : ByteArray) = strOfNums [48]:=rfl
theorem str1 : (⟨#[49]⟩ : ByteArray) = strOfNums [49]:=rfl
theorem str00 : (⟨#[48,48]⟩ : ByteArray) = strOfNums [48,48]:=rfl
theorem text_base (id : Int) (rtr : Bool) : (⟨#[48]⟩ : ByteArray) ++ strOfNums (numL id.toNat 11) ++ strOfNums (flagL rtr) ++ ⟨#[48]⟩ ++ ⟨#[48]⟩ = strOfNums (headL false id rtr):=by
 rw [str0, ← str_append, ← str_append, ← str_append, ← str_append]
 congr 1
theorem text_ext29 (id : Int) (rtr : Bool) : (⟨#[48]⟩ : ByteArray) ++ strOfNums (numL (id.toNat / 262144) 11) ++ ⟨#[49]⟩ ++ ⟨#[49]⟩ ++ strOfNums (numL id.toNat 18) ++ strOfNums (flagL rtr) ++ ⟨#[48,48]⟩ = strOfNums (headL true id rtr):=by
 rw [str0,str1,str00, ← str_append, ← str_append, ← str_append, ← str_append, ← str_append, ← str_append]
 congr 1
theorem num29 (u : Nat) : numL u 29 = numL (u / 262144) 11 ++ numL u 18:=numL_add u 11 18
theorem text_left (u : Nat) : (strOfNums (numL u 29)).extract 0 11 = strOfNums (numL (u / 262144) 11):=by
 rw [num29]
 have:=str_extract_left (numL (u / 262144) 11) (numL u 18)
 rw [numL_length] at this
 exact this
theorem text_right (u : Nat) : (strOfNums (numL u 29)).extract 11 29 = strOfNums (numL u 18):=by
 have h:=str_extract_right (numL (u / 262144) 11) (numL u 18)
 rw [← num29,numL_length,strOfNums_size,numL_length] at h
 exact h
set_option maxHeartbeats 4000000 in
theorem spec_Body.yes (ext : Bool) (id : Int) (rtr : Bool) (dlc : Int) (A : Option Addr) (c : Nat) (l : List Int) (w : World) (hr : Kd.C (Kd.int .u8) w A l.length l) (hc : l.length ≤ c) (h0 : 0 ≤ id) (hb : okBytes l = true) (hv : validF ext id rtr dlc l.length = true) :
  Calls Tryd.prog 58 #[.agg #[.bool ext, .int .u32 id, .bool rtr, .int .i64 dlc, .slice A l.length c]] w fun e w' => e = .returned (.string (strOfNums (bodyL ext id rtr dlc l))) ∧ Below w.heap.size w w':=by
 obtain ⟨hid,hd0,hd1, -,hn8⟩:=valid_parts hv
 have HV:=Lib.hid hv
 have HR:=Lib.hid hr
 have HC:=Lib.hid hc
 have HOB:=Lib.hid hb
 have hid2 : id < 536870912:=by unfold vtop at hid;split at hid <;> omega
 have HID : Hid (ext = false → id < 2048):=Lib.hid (fun e => by rw [e] at hid;exact hid)
 have HU : Hid (id = (id.toNat : Int)):=Lib.hid (by omega)
 have HD : Hid (dlc = (dlc.toNat : Int)):=Lib.hid (by omega)
 have HL : Hid (l.length ≤ 8):=Lib.hid hn8
 have HM8 : Hid (l.length ≤ 9223372036854775807):=Lib.hid hr.2.1
 clear hv hr hc hb hid hn8
 cases ext
 ·go_enter Tryd.func58,Tryd.ntmps58
  go_wp2_with (fail)
  (refine (spec_ValidFrame.at false id rtr dlc A c l _ (Kd.C_below HR.out ((Below.refl _ _).alloc (Nat.le_refl _) _)) HC.out true HV.out).mono ?_;rintro e w1 ⟨rfl,hb1⟩;have HB1 : Hid (Below w.heap.size w w1):=Lib.hid (Below.trans ((Below.refl _ _).alloc (Nat.le_refl _) _) (hb1.mono (by simp)));have HBOX:=Lib.hid (blk_below (blk_new w _) hb1);clear hb1;have hc0:=blk_cell HBOX.out 0;have hc1:=blk_cell HBOX.out 1;have hc2:=blk_cell HBOX.out 2;have hc3:=blk_cell HBOX.out 3;have hc4:=blk_cell HBOX.out 4;simp only [box5_0,box5_1,box5_2,box5_3,box5_4] at hc0 hc1 hc2 hc3 hc4)
  go_wp2_with (fail)
  have hw : IntKind.i64.wrap id = id:=by rw [IntKind.wrap_i64];omega
  have hs1 : (strOfNums (numL id.toNat 11)).size = 11:=by rw [strOfNums_size,numL_length]
  have hs2 : (strOfNums (flagL rtr)).size = 1:=by rw [strOfNums_size];rfl
  go_quiet ((first | (go_at_call 59;exact Calls.quiet_of (spec_l1num.at _ 11 id.toNat 11 _ HU.out (by omega) rfl (by omega))) | (go_at_call 74;exact Calls.quiet_of (spec_l1flag.at _ _))))
  go_wp2_with (fail)
  rw [text_base]
  (refine (spec_l1num.at dlc 4 dlc.toNat 4 _ HD.out (by omega) rfl (by omega)).mono ?_;rintro e w2 ⟨rfl,m2,rfl⟩)
  have HS1 : (strOfNums (headL false id rtr)).size ≤ 35:=by rw [strOfNums_size];exact headL_length _ _ _
  have HS2 : (strOfNums (numL dlc.toNat 4)).size = 4:=by rw [strOfNums_size,numL_length]
  go_wp2_with (fail)
  have HBL:=below_drewN HB1.out
  have HBX:=HBOX.out
  clear hc0 hc1 hc2 hc3 hc4 HBOX
  go_loopw [5,3] (fun v5 v3 wr => ∃ (i : Nat),i ≤ l.length ∧ v5 = .int .i64 i ∧ v3 = .string (strOfNums (headL false id rtr ++ (numL dlc.toNat 4 ++ dataL (l.take i)))) ∧ Aside0 (Below w.heap.size w wr) ∧ Aside0 (wr.heap[w.heap.size]? = some (.cells #[.bool false, .int .u32 id, .bool rtr, .int .i64 dlc, .slice A l.length c] 29 (0,0)))) (fun v5 _ _ => l.length - (intOf v5).toNat)
  case atStart => exact ⟨0,Nat.zero_le _,rfl,by rw [← str_append,List.take_zero];simp [dataL],⟨HBL _⟩,⟨HBX⟩⟩
  case round =>
   obtain ⟨i,hi,rfl,rfl,HB,HBOX⟩:=hrel
   have hc0:=blk_cell HBOX.out 0;have hc1:=blk_cell HBOX.out 1;have hc2:=blk_cell HBOX.out 2;have hc3:=blk_cell HBOX.out 3;have hc4:=blk_cell HBOX.out 4;simp only [box5_0,box5_1,box5_2,box5_3,box5_4] at hc0 hc1 hc2 hc3 hc4
   have hsz : (strOfNums (headL false id rtr ++ (numL dlc.toNat 4 ++ dataL (l.take i)))).size ≤ 103:=by
    have h1:=headL_length false id rtr;have h2:=dataL_length (l.take i);have h3:=HL.out;rw [strOfNums_size];simp [numL_length] at h1 h2 ⊢;omega
   by_cases hlt : i < l.length
   ·obtain ⟨ad,ea,hcell⟩:=Kd.at_int (Kd.C_below HR.out HB.out) (i : Int) (by omega) (by omega)
    subst ea
    have HBY:=Lib.hid (okBytes_at HOB.out i hlt)
    have HX : Hid (rd l (i : Int) = ((rd l (i : Int)).toNat : Int)):=Lib.hid (by have:=HBY.out;omega)
    rw [HX.out,Int.toNat_natCast] at hcell
    generalize hxx : (rd l (i : Int)).toNat = x at hcell
    have HXX : Hid (x = (rd l (i : Int)).toNat ∧ x < 256):=Lib.hid ⟨hxx.symm,by have:=HBY.out;omega⟩
    have hx256 : x < 256:=HXX.out.2
    have hm8:=HM8.out
    clear hxx
    go_wp2_with (fail)
    (refine (spec_l1num.at (x : Int) 8 x 8 _ rfl (by omega) rfl (by omega)).mono ?_;rintro e w3 ⟨rfl,m3,rfl⟩)
    have HS3 : (strOfNums (numL x 8)).size = 8:=by rw [strOfNums_size,numL_length]
    go_wp2_with (fail)
    go_roundw
    case rel => exact ⟨i + 1,hlt,by go_num,by rw [← str_append,take_next l i hlt,dataL_snoc,HXX.out.1];simp only [List.append_assoc],⟨below_drewN HB.out _⟩,⟨HBOX.out⟩⟩
    case measure => simp [intOf];omega
   ·obtain rfl : i = l.length:=by omega
    go_wp2_with (fail)
    go_ret
    exact ⟨by rw [List.take_length];unfold bodyL;rw [List.append_assoc];rfl,HB.out⟩
 ·go_enter Tryd.func58,Tryd.ntmps58
  go_wp2_with (fail)
  (refine (spec_ValidFrame.at true id rtr dlc A c l _ (Kd.C_below HR.out ((Below.refl _ _).alloc (Nat.le_refl _) _)) HC.out true HV.out).mono ?_;rintro e w1 ⟨rfl,hb1⟩;have HB1 : Hid (Below w.heap.size w w1):=Lib.hid (Below.trans ((Below.refl _ _).alloc (Nat.le_refl _) _) (hb1.mono (by simp)));have HBOX:=Lib.hid (blk_below (blk_new w _) hb1);clear hb1;have hc0:=blk_cell HBOX.out 0;have hc1:=blk_cell HBOX.out 1;have hc2:=blk_cell HBOX.out 2;have hc3:=blk_cell HBOX.out 3;have hc4:=blk_cell HBOX.out 4;simp only [box5_0,box5_1,box5_2,box5_3,box5_4] at hc0 hc1 hc2 hc3 hc4)
  go_wp2_with (fail)
  have hw : IntKind.i64.wrap id = id:=by rw [IntKind.wrap_i64];omega
  (refine (spec_l1num.at id 29 id.toNat 29 _ HU.out (by omega) rfl (by omega)).mono ?_;rintro e wn ⟨rfl,mn,rfl⟩)
  have hs2 : (strOfNums (flagL rtr)).size = 1:=by rw [strOfNums_size];rfl
  have hs3 : (strOfNums (numL id.toNat 29)).size = 29:=by rw [strOfNums_size,numL_length]
  have hs4 : (strOfNums (numL (id.toNat / 262144) 11)).size = 11:=by rw [strOfNums_size,numL_length]
  have hs5 : (strOfNums (numL id.toNat 18)).size = 18:=by rw [strOfNums_size,numL_length]
  have hx1 : (strOfNums (numL id.toNat 29)).extract 0 11 = strOfNums (numL (id.toNat / 262144) 11):=text_left id.toNat
  have hx2 : (strOfNums (numL id.toNat 29)).extract 11 29 = strOfNums (numL id.toNat 18):=text_right id.toNat
  go_wp2_with (fail)
  obtain ⟨W,hW⟩ : ∃ W,W = w1.drewN mn:=⟨_,rfl⟩
  rw [← hW]
  (have HBX : Hid (W.heap[w.heap.size]? = some (.cells #[.bool true, .int .u32 id, .bool rtr, .int .i64 dlc, .slice A l.length c] 29 (0,0))):=Lib.hid (by rw [hW];exact HBOX.out);have HBW : Hid (Below w.heap.size w W):=Lib.hid (by rw [hW];exact below_drewN HB1.out _);clear hc0 hc1 hc2 hc3 hc4 hW HBOX HB1;have HBOX:=HBX;have HB1:=HBW;clear HBX HBW;have hc0:=blk_cell HBOX.out 0;have hc1:=blk_cell HBOX.out 1;have hc2:=blk_cell HBOX.out 2;have hc3:=blk_cell HBOX.out 3;have hc4:=blk_cell HBOX.out 4;simp only [box5_0,box5_1,box5_2,box5_3,box5_4] at hc0 hc1 hc2 hc3 hc4)
  go_quiet ((first | (go_at_call 74;exact Calls.quiet_of (spec_l1flag.at _ _))))
  go_wp2_with (fail)
  rw [text_ext29]
  (refine (spec_l1num.at dlc 4 dlc.toNat 4 _ HD.out (by omega) rfl (by omega)).mono ?_;rintro e w2 ⟨rfl,m2,rfl⟩)
  have HS1 : (strOfNums (headL true id rtr)).size ≤ 35:=by rw [strOfNums_size];exact headL_length _ _ _
  have HS2 : (strOfNums (numL dlc.toNat 4)).size = 4:=by rw [strOfNums_size,numL_length]
  go_wp2_with (fail)
  have HBL:=below_drewN HB1.out
  have HBX:=HBOX.out
  clear hc0 hc1 hc2 hc3 hc4 HBOX
  go_loopw [5,3] (fun v5 v3 wr => ∃ (i : Nat),i ≤ l.length ∧ v5 = .int .i64 i ∧ v3 = .string (strOfNums (headL true id rtr ++ (numL dlc.toNat 4 ++ dataL (l.take i)))) ∧ Aside0 (Below w.heap.size w wr) ∧ Aside0 (wr.heap[w.heap.size]? = some (.cells #[.bool true, .int .u32 id, .bool rtr, .int .i64 dlc, .slice A l.length c] 29 (0,0)))) (fun v5 _ _ => l.length - (intOf v5).toNat)
  case atStart => exact ⟨0,Nat.zero_le _,rfl,by rw [← str_append,List.take_zero];simp [dataL],⟨HBL _⟩,⟨HBX⟩⟩
  case round =>
   obtain ⟨i,hi,rfl,rfl,HB,HBOX⟩:=hrel
   have hc0:=blk_cell HBOX.out 0;have hc1:=blk_cell HBOX.out 1;have hc2:=blk_cell HBOX.out 2;have hc3:=blk_cell HBOX.out 3;have hc4:=blk_cell HBOX.out 4;simp only [box5_0,box5_1,box5_2,box5_3,box5_4] at hc0 hc1 hc2 hc3 hc4
   have hsz : (strOfNums (headL true id rtr ++ (numL dlc.toNat 4 ++ dataL (l.take i)))).size ≤ 103:=by
    have h1:=headL_length true id rtr;have h2:=dataL_length (l.take i);have h3:=HL.out;rw [strOfNums_size];simp [numL_length] at h1 h2 ⊢;omega
   by_cases hlt : i < l.length
   ·obtain ⟨ad,ea,hcell⟩:=Kd.at_int (Kd.C_below HR.out HB.out) (i : Int) (by omega) (by omega)
    subst ea
    have HBY:=Lib.hid (okBytes_at HOB.out i hlt)
    have HX : Hid (rd l (i : Int) = ((rd l (i : Int)).toNat : Int)):=Lib.hid (by have:=HBY.out;omega)
    rw [HX.out,Int.toNat_natCast] at hcell
    generalize hxx : (rd l (i : Int)).toNat = x at hcell
    have HXX : Hid (x = (rd l (i : Int)).toNat ∧ x < 256):=Lib.hid ⟨hxx.symm,by have:=HBY.out;omega⟩
    have hx256 : x < 256:=HXX.out.2
    have hm8:=HM8.out
    clear hxx
    go_wp2_with (fail)
    (refine (spec_l1num.at (x : Int) 8 x 8 _ rfl (by omega) rfl (by omega)).mono ?_;rintro e w3 ⟨rfl,m3,rfl⟩)
    have HS3 : (strOfNums (numL x 8)).size = 8:=by rw [strOfNums_size,numL_length]
    go_wp2_with (fail)
    go_roundw
    case rel => exact ⟨i + 1,hlt,by go_num,by rw [← str_append,take_next l i hlt,dataL_snoc,HXX.out.1];simp only [List.append_assoc],⟨below_drewN HB.out _⟩,⟨HBOX.out⟩⟩
    case measure => simp [intOf];omega
   ·obtain rfl : i = l.length:=by omega
    go_wp2_with (fail)
    go_ret
    exact ⟨by rw [List.take_length];unfold bodyL;rw [List.append_assoc];rfl,HB.out⟩
theorem spec_Body.calls (a0_0 : Bool) (a0_1 : Int) (a0_2 : Bool) (a0_3 : Int) (A0_4 : Option Addr) (c0_4 : Nat) (l0_4 : List Int) (r : ByteArray) (w : World) (hr0_4 : Kd.C (Kd.int .u8) w A0_4 l0_4.length l0_4) (hc0_4 : l0_4.length ≤ c0_4) (h : spec_Body.f a0_0 a0_1 a0_2 a0_3 l0_4 = some r) :
  Calls Tryd.prog 58 #[.agg #[.bool a0_0, .int .u32 a0_1, .bool a0_2, .int .i64 a0_3, .slice A0_4 l0_4.length c0_4]] w fun e w' => e = .returned (.string r) ∧ Below w.heap.size w w':=by
 unfold spec_Body.f at h
 by_cases c : 0 ≤ a0_1 ∧ okBytes l0_4 = true
 ·rw [if_pos c] at h
  have hr:=(Option.some.inj h).symm
  unfold bodyV at hr
  cases hv : validF a0_0 a0_1 a0_2 a0_3 l0_4.length with
  | true =>
   rw [hv,if_pos rfl] at hr
   subst hr
   exact spec_Body.yes a0_0 a0_1 a0_2 a0_3 A0_4 c0_4 l0_4 w hr0_4 hc0_4 c.1 c.2 hv
  | false =>
   rw [hv] at hr
   subst hr
   have HV:=Lib.hid hv
   have HR:=Lib.hid hr0_4
   have HC:=Lib.hid hc0_4
   have HM8 : Hid (l0_4.length ≤ 9223372036854775807):=Lib.hid hr0_4.2.1
   clear hr0_4 hc0_4 hv c h
   go_enter Tryd.func58,Tryd.ntmps58
   go_wp2_with (fail)
   (refine (spec_ValidFrame.at a0_0 a0_1 a0_2 a0_3 A0_4 c0_4 l0_4 _ (Kd.C_below HR.out ((Below.refl _ _).alloc (Nat.le_refl _) _)) HC.out false HV.out).mono ?_;rintro e w1 ⟨rfl,hb1⟩;have HB1 : Hid (Below w.heap.size w w1):=Lib.hid (Below.trans ((Below.refl _ _).alloc (Nat.le_refl _) _) (hb1.mono (by simp)));clear hb1)
   go_wp2_with (fail)
   go_ret
   exact ⟨rfl,HB1.out⟩
 ·rw [if_neg c] at h
  cases h
def spec_Encode.f (k : Nat) (a0_0 : Bool) (a0_1 : Int) (a0_2 : Bool) (a0_3 : Int) (l0_4 : List Int) : Option (ByteArray):=(spec_ValidFrame.f k a0_0 a0_1 a0_2 a0_3 l0_4).bind fun t222 => (if t222 = true then ((spec_Body.f a0_0 a0_1 a0_2 a0_3 l0_4).bind fun t223 => ((spec_Crc15.f k t223).bind fun t224 => ((spec_l1num.f k t224 15).bind fun t225 => (if t223.size + t225.size ≤ 9223372036854775807 then ((spec_Stuff.f k (t223 ++ t225)).bind fun t226 => (if t226.size + 1 ≤ 9223372036854775807 then (if (t226 ++ (⟨#[49]⟩ : ByteArray)).size + 1 ≤ 9223372036854775807 then (if ((t226 ++ (⟨#[49]⟩ : ByteArray)) ++ (⟨#[49]⟩ : ByteArray)).size + 1 ≤ 9223372036854775807 then (if (((t226 ++ (⟨#[49]⟩ : ByteArray)) ++ (⟨#[49]⟩ : ByteArray)) ++ (⟨#[49]⟩ : ByteArray)).size + 7 ≤ 9223372036854775807 then (some ((((t226 ++ (⟨#[49]⟩ : ByteArray)) ++ (⟨#[49]⟩ : ByteArray)) ++ (⟨#[49]⟩ : ByteArray)) ++ (⟨#[49,49,49,49,49,49,49]⟩ : ByteArray))) else (none)) else (none)) else (none)) else (none))) else (none))))) else (some (⟨#[]⟩ : ByteArray)))
set_option maxHeartbeats 8000000 in
set_option maxRecDepth 100000 in
theorem spec_Encode.calls (k : Nat) (a0_0 : Bool) (a0_1 : Int) (a0_2 : Bool) (a0_3 : Int) (A0_4 : Option Addr) (c0_4 : Nat) (l0_4 : List Int) (r : ByteArray) (w : World) (hr0_4 : Kd.C (Kd.int .u8) w A0_4 l0_4.length l0_4) (hc0_4 : l0_4.length ≤ c0_4) (h : spec_Encode.f k a0_0 a0_1 a0_2 a0_3 l0_4 = some r) :
  Calls Tryd.prog 55 #[.agg #[.bool a0_0, .int .u32 a0_1, .bool a0_2, .int .i64 a0_3, .slice A0_4 l0_4.length c0_4]] w fun e w' => e = .returned (.string r) ∧ Below w.heap.size w w':=by
 have hu29:=Tryd.underlying29
 have HR0_4:=Aside0.mk hr0_4
 have HC0_4:=Aside0.mk hc0_4
 clear hr0_4 hc0_4
 have HB:=Aside0.mk (Below.refl w.heap.size w)
 have H : ((spec_ValidFrame.f k a0_0 a0_1 a0_2 a0_3 l0_4).bind fun t222 => (if t222 = true then ((spec_Body.f a0_0 a0_1 a0_2 a0_3 l0_4).bind fun t223 => ((spec_Crc15.f k t223).bind fun t224 => ((spec_l1num.f k t224 15).bind fun t225 => (if t223.size + t225.size ≤ 9223372036854775807 then ((spec_Stuff.f k (t223 ++ t225)).bind fun t226 => (if t226.size + 1 ≤ 9223372036854775807 then (if (t226 ++ (⟨#[49]⟩ : ByteArray)).size + 1 ≤ 9223372036854775807 then (if ((t226 ++ (⟨#[49]⟩ : ByteArray)) ++ (⟨#[49]⟩ : ByteArray)).size + 1 ≤ 9223372036854775807 then (if (((t226 ++ (⟨#[49]⟩ : ByteArray)) ++ (⟨#[49]⟩ : ByteArray)) ++ (⟨#[49]⟩ : ByteArray)).size + 7 ≤ 9223372036854775807 then (some ((((t226 ++ (⟨#[49]⟩ : ByteArray)) ++ (⟨#[49]⟩ : ByteArray)) ++ (⟨#[49]⟩ : ByteArray)) ++ (⟨#[49,49,49,49,49,49,49]⟩ : ByteArray))) else (none)) else (none)) else (none)) else (none))) else (none))))) else (some (⟨#[]⟩ : ByteArray)))) = some r:=h
 clear h
 replace H:=Option.bind_eq_some_iff.mp H
 obtain ⟨t222,A20,H⟩:=H
 replace H : (if t222 = true then ((spec_Body.f a0_0 a0_1 a0_2 a0_3 l0_4).bind fun t223 => ((spec_Crc15.f k t223).bind fun t224 => ((spec_l1num.f k t224 15).bind fun t225 => (if t223.size + t225.size ≤ 9223372036854775807 then ((spec_Stuff.f k (t223 ++ t225)).bind fun t226 => (if t226.size + 1 ≤ 9223372036854775807 then (if (t226 ++ (⟨#[49]⟩ : ByteArray)).size + 1 ≤ 9223372036854775807 then (if ((t226 ++ (⟨#[49]⟩ : ByteArray)) ++ (⟨#[49]⟩ : ByteArray)).size + 1 ≤ 9223372036854775807 then (if (((t226 ++ (⟨#[49]⟩ : ByteArray)) ++ (⟨#[49]⟩ : ByteArray)) ++ (⟨#[49]⟩ : ByteArray)).size + 7 ≤ 9223372036854775807 then (some ((((t226 ++ (⟨#[49]⟩ : ByteArray)) ++ (⟨#[49]⟩ : ByteArray)) ++ (⟨#[49]⟩ : ByteArray)) ++ (⟨#[49,49,49,49,49,49,49]⟩ : ByteArray))) else (none)) else (none)) else (none)) else (none))) else (none))))) else (some (⟨#[]⟩ : ByteArray))) = some r:=H
 have A2:=Aside0.mk A20
 clear A20
 by_cases c3 : t222 = true
 ·subst c3
  have H1 : ((spec_Body.f a0_0 a0_1 a0_2 a0_3 l0_4).bind fun t223 => ((spec_Crc15.f k t223).bind fun t224 => ((spec_l1num.f k t224 15).bind fun t225 => (if t223.size + t225.size ≤ 9223372036854775807 then ((spec_Stuff.f k (t223 ++ t225)).bind fun t226 => (if t226.size + 1 ≤ 9223372036854775807 then (if (t226 ++ (⟨#[49]⟩ : ByteArray)).size + 1 ≤ 9223372036854775807 then (if ((t226 ++ (⟨#[49]⟩ : ByteArray)) ++ (⟨#[49]⟩ : ByteArray)).size + 1 ≤ 9223372036854775807 then (if (((t226 ++ (⟨#[49]⟩ : ByteArray)) ++ (⟨#[49]⟩ : ByteArray)) ++ (⟨#[49]⟩ : ByteArray)).size + 7 ≤ 9223372036854775807 then (some ((((t226 ++ (⟨#[49]⟩ : ByteArray)) ++ (⟨#[49]⟩ : ByteArray)) ++ (⟨#[49]⟩ : ByteArray)) ++ (⟨#[49,49,49,49,49,49,49]⟩ : ByteArray))) else (none)) else (none)) else (none)) else (none))) else (none))))) = some r:=by rw [if_pos rfl] at H;exact H
  clear H
  have H:=H1
  clear H1
  replace H:=Option.bind_eq_some_iff.mp H
  obtain ⟨t223,A40,H⟩:=H
  replace H : ((spec_Crc15.f k t223).bind fun t224 => ((spec_l1num.f k t224 15).bind fun t225 => (if t223.size + t225.size ≤ 9223372036854775807 then ((spec_Stuff.f k (t223 ++ t225)).bind fun t226 => (if t226.size + 1 ≤ 9223372036854775807 then (if (t226 ++ (⟨#[49]⟩ : ByteArray)).size + 1 ≤ 9223372036854775807 then (if ((t226 ++ (⟨#[49]⟩ : ByteArray)) ++ (⟨#[49]⟩ : ByteArray)).size + 1 ≤ 9223372036854775807 then (if (((t226 ++ (⟨#[49]⟩ : ByteArray)) ++ (⟨#[49]⟩ : ByteArray)) ++ (⟨#[49]⟩ : ByteArray)).size + 7 ≤ 9223372036854775807 then (some ((((t226 ++ (⟨#[49]⟩ : ByteArray)) ++ (⟨#[49]⟩ : ByteArray)) ++ (⟨#[49]⟩ : ByteArray)) ++ (⟨#[49,49,49,49,49,49,49]⟩ : ByteArray))) else (none)) else (none)) else (none)) else (none))) else (none)))) = some r:=H
  have A4:=Aside0.mk A40
  clear A40
  replace H:=Option.bind_eq_some_iff.mp H
  obtain ⟨t224,A50,H⟩:=H
  replace H : ((spec_l1num.f k t224 15).bind fun t225 => (if t223.size + t225.size ≤ 9223372036854775807 then ((spec_Stuff.f k (t223 ++ t225)).bind fun t226 => (if t226.size + 1 ≤ 9223372036854775807 then (if (t226 ++ (⟨#[49]⟩ : ByteArray)).size + 1 ≤ 9223372036854775807 then (if ((t226 ++ (⟨#[49]⟩ : ByteArray)) ++ (⟨#[49]⟩ : ByteArray)).size + 1 ≤ 9223372036854775807 then (if (((t226 ++ (⟨#[49]⟩ : ByteArray)) ++ (⟨#[49]⟩ : ByteArray)) ++ (⟨#[49]⟩ : ByteArray)).size + 7 ≤ 9223372036854775807 then (some ((((t226 ++ (⟨#[49]⟩ : ByteArray)) ++ (⟨#[49]⟩ : ByteArray)) ++ (⟨#[49]⟩ : ByteArray)) ++ (⟨#[49,49,49,49,49,49,49]⟩ : ByteArray))) else (none)) else (none)) else (none)) else (none))) else (none))) = some r:=H
  have A5:=Aside0.mk A50
  clear A50
  replace H:=Option.bind_eq_some_iff.mp H
  obtain ⟨t225,A60,H⟩:=H
  replace H : (if t223.size + t225.size ≤ 9223372036854775807 then ((spec_Stuff.f k (t223 ++ t225)).bind fun t226 => (if t226.size + 1 ≤ 9223372036854775807 then (if (t226 ++ (⟨#[49]⟩ : ByteArray)).size + 1 ≤ 9223372036854775807 then (if ((t226 ++ (⟨#[49]⟩ : ByteArray)) ++ (⟨#[49]⟩ : ByteArray)).size + 1 ≤ 9223372036854775807 then (if (((t226 ++ (⟨#[49]⟩ : ByteArray)) ++ (⟨#[49]⟩ : ByteArray)) ++ (⟨#[49]⟩ : ByteArray)).size + 7 ≤ 9223372036854775807 then (some ((((t226 ++ (⟨#[49]⟩ : ByteArray)) ++ (⟨#[49]⟩ : ByteArray)) ++ (⟨#[49]⟩ : ByteArray)) ++ (⟨#[49,49,49,49,49,49,49]⟩ : ByteArray))) else (none)) else (none)) else (none)) else (none))) else (none)) = some r:=H
  have A6:=Aside0.mk A60
  clear A60
  by_cases c7 : t223.size + t225.size ≤ 9223372036854775807
  ·rw [if_pos c7] at H
   have c7b0:=eq_true c7
   have c7b1 : decide (t223.size + t225.size ≤ 9223372036854775807) = true:=decide_eq_true c7
   try have c7b2 : (9223372036854775807 < t223.size + t225.size) = False:=eq_false (Nat.not_lt.2 c7)
   replace H:=Option.bind_eq_some_iff.mp H
   obtain ⟨t226,A80,H⟩:=H
   replace H : (if t226.size + 1 ≤ 9223372036854775807 then (if (t226 ++ (⟨#[49]⟩ : ByteArray)).size + 1 ≤ 9223372036854775807 then (if ((t226 ++ (⟨#[49]⟩ : ByteArray)) ++ (⟨#[49]⟩ : ByteArray)).size + 1 ≤ 9223372036854775807 then (if (((t226 ++ (⟨#[49]⟩ : ByteArray)) ++ (⟨#[49]⟩ : ByteArray)) ++ (⟨#[49]⟩ : ByteArray)).size + 7 ≤ 9223372036854775807 then (some ((((t226 ++ (⟨#[49]⟩ : ByteArray)) ++ (⟨#[49]⟩ : ByteArray)) ++ (⟨#[49]⟩ : ByteArray)) ++ (⟨#[49,49,49,49,49,49,49]⟩ : ByteArray))) else (none)) else (none)) else (none)) else (none)) = some r:=H
   have A8:=Aside0.mk A80
   clear A80
   by_cases c9 : t226.size + 1 ≤ 9223372036854775807
   ·rw [if_pos c9] at H
    have c9b0:=eq_true c9
    have c9b1 : decide (t226.size + 1 ≤ 9223372036854775807) = true:=decide_eq_true c9
    try have c9b2 : (9223372036854775807 < t226.size + 1) = False:=eq_false (Nat.not_lt.2 c9)
    by_cases c10 : (t226 ++ (⟨#[49]⟩ : ByteArray)).size + 1 ≤ 9223372036854775807
    ·rw [if_pos c10] at H
     have c10b0:=eq_true c10
     have c10b1 : decide ((t226 ++ (⟨#[49]⟩ : ByteArray)).size + 1 ≤ 9223372036854775807) = true:=decide_eq_true c10
     try have c10b2 : (9223372036854775807 < (t226 ++ (⟨#[49]⟩ : ByteArray)).size + 1) = False:=eq_false (Nat.not_lt.2 c10)
     by_cases c11 : ((t226 ++ (⟨#[49]⟩ : ByteArray)) ++ (⟨#[49]⟩ : ByteArray)).size + 1 ≤ 9223372036854775807
     ·rw [if_pos c11] at H
      have c11b0:=eq_true c11
      have c11b1 : decide (((t226 ++ (⟨#[49]⟩ : ByteArray)) ++ (⟨#[49]⟩ : ByteArray)).size + 1 ≤ 9223372036854775807) = true:=decide_eq_true c11
      try have c11b2 : (9223372036854775807 < ((t226 ++ (⟨#[49]⟩ : ByteArray)) ++ (⟨#[49]⟩ : ByteArray)).size + 1) = False:=eq_false (Nat.not_lt.2 c11)
      by_cases c12 : (((t226 ++ (⟨#[49]⟩ : ByteArray)) ++ (⟨#[49]⟩ : ByteArray)) ++ (⟨#[49]⟩ : ByteArray)).size + 7 ≤ 9223372036854775807
      ·rw [if_pos c12] at H
       have c12b0:=eq_true c12
       have c12b1 : decide ((((t226 ++ (⟨#[49]⟩ : ByteArray)) ++ (⟨#[49]⟩ : ByteArray)) ++ (⟨#[49]⟩ : ByteArray)).size + 7 ≤ 9223372036854775807) = true:=decide_eq_true c12
       try have c12b2 : (9223372036854775807 < (((t226 ++ (⟨#[49]⟩ : ByteArray)) ++ (⟨#[49]⟩ : ByteArray)) ++ (⟨#[49]⟩ : ByteArray)).size + 7) = False:=eq_false (Nat.not_lt.2 c12)
       have z12 : t226.size + 10 ≤ 9223372036854775807:=by
        have h:=c12
        rw [ByteArray.size_append,ByteArray.size_append,ByteArray.size_append] at h
        change t226.size + 1 + 1 + 1 + 7 ≤ 9223372036854775807 at h
        omega
       obtain rfl:=Option.some.inj H
       go_enter Tryd.func55,Tryd.ntmps55
       go_wp2_with (first | ((with_reducible refine gate_dst (N:=1) rfl ?_);refine box_event ?hg (N:=1) ?hd (cs := #[.bool a0_0, .int .u32 a0_1, .bool a0_2, .int .i64 a0_3, .slice A0_4 l0_4.length c0_4]) (t:=29) ?hr ?_;(case hd => rfl);(case hg => rfl);(case hr => first | (go_simp;done) | (go_simp;rfl));intro gb221 hg w13 hbox hb;have n0_:=Aside0.mk (below_step (by repeat (first | (with_reducible first | exact HB.out | apply below_alloc | apply pw_below_drewN | apply below_drew1) | exact HB.out)) hb);have n1_:=Aside0.mk (hbox);have n2_:=Aside0.mk ((by rw [hg];exact (below_size (by repeat (first | (with_reducible first | exact HB.out | apply below_alloc | apply pw_below_drewN | apply below_drew1) | exact HB.out))) : w.heap.size ≤ gb221));have n3_:=Aside0.mk ((by rw [hg];exact (below_size (by repeat (first | (with_reducible first | exact HB.out | apply below_alloc | apply pw_below_drewN | apply below_drew1) | exact HB.out))) : w.heap.size ≤ gb221));clear HB;have HB:=n0_;have BK221:=n1_;have GW221:=n2_;have GE221:=n3_;clear n0_ n1_ n2_ n3_;clear hb hbox hg;obtain ⟨hcz14_0,hcz14_1,hcz14_2,hcz14_3,hcz14_4⟩:=bc5 BK221.out;obtain ⟨hfz14_0,hfz14_1,hfz14_2,hfz14_3,hfz14_4⟩:=bf5 BK221.out) | ((with_reducible refine gate_callee (f:=73) rfl ?_);refine goesL_ (some 5) rfl rfl Tryd.func73 (by kernel_rfl) rfl #[.agg #[.bool a0_0, .int .u32 a0_1, .bool a0_2, .int .i64 a0_3, .slice A0_4 l0_4.length c0_4]] rfl (by (try simp only [List.map_toArray,List.map_cons,List.map_nil]);first | done | rfl | (simp only [List.length_drop,List.length_take];rfl)) ?_;(with_reducible refine (spec_ValidFrame.calls k a0_0 a0_1 a0_2 a0_3 _ _ l0_4 true _ ?side1 ?side2 A2.out).mono ?_);(case side1 => repeat (first | exact (Kd.C_below HR0_4.out HB.out) | (with_reducible refine Kd.C_alloc ?_ _) | (with_reducible refine Kd.C_drewN ?_ _) | (with_reducible refine Kd.C_drew ?_)));(case side2 => exact HC0_4.out);rintro e w15 ⟨rfl,hb⟩;refine ⟨_,rfl, ?_⟩;have n0_:=Aside0.mk (blk_below (g:=gb221) (o := .cells #[.bool a0_0, .int .u32 a0_1, .bool a0_2, .int .i64 a0_3, .slice A0_4 l0_4.length c0_4] 29 (0,0)) (by (with_reducible repeat (first | refine blk_drewN ?_ _ | refine blk_drew ?_ | refine blk_alloc ?_ _));exact BK221.out) hb);have n1_:=Aside0.mk (below_step (by repeat (first | (with_reducible first | exact HB.out | apply below_alloc | apply pw_below_drewN | apply below_drew1 | refine below_set ?_ GE221.out) | exact HB.out)) hb);clear BK221;clear HB;have BK221:=n0_;have HB:=n1_;clear n0_ n1_;(try clear hb);(try clear hb2);(try clear hk);(try clear hi);obtain ⟨hcz16_0,hcz16_1,hcz16_2,hcz16_3,hcz16_4⟩:=bc5 BK221.out;obtain ⟨hfz16_0,hfz16_1,hfz16_2,hfz16_3,hfz16_4⟩:=bf5 BK221.out) | ((with_reducible refine gate_callee (f:=58) rfl ?_);refine goesL_ (some 8) rfl rfl Tryd.func58 (by kernel_rfl) rfl #[.agg #[.bool a0_0, .int .u32 a0_1, .bool a0_2, .int .i64 a0_3, .slice A0_4 l0_4.length c0_4]] rfl (by (try simp only [List.map_toArray,List.map_cons,List.map_nil]);first | done | rfl | (simp only [List.length_drop,List.length_take];rfl)) ?_;(with_reducible refine (spec_Body.calls a0_0 a0_1 a0_2 a0_3 _ _ l0_4 t223 _ ?side1 ?side2 A4.out).mono ?_);(case side1 => repeat (first | exact (Kd.C_below HR0_4.out HB.out) | (with_reducible refine Kd.C_alloc ?_ _) | (with_reducible refine Kd.C_drewN ?_ _) | (with_reducible refine Kd.C_drew ?_)));(case side2 => exact HC0_4.out);rintro e w17 ⟨rfl,hb⟩;refine ⟨_,rfl, ?_⟩;have n0_:=Aside0.mk (blk_below (g:=gb221) (o := .cells #[.bool a0_0, .int .u32 a0_1, .bool a0_2, .int .i64 a0_3, .slice A0_4 l0_4.length c0_4] 29 (0,0)) (by (with_reducible repeat (first | refine blk_drewN ?_ _ | refine blk_drew ?_ | refine blk_alloc ?_ _));exact BK221.out) hb);have n1_:=Aside0.mk (below_step (by repeat (first | (with_reducible first | exact HB.out | apply below_alloc | apply pw_below_drewN | apply below_drew1 | refine below_set ?_ GE221.out) | exact HB.out)) hb);clear BK221;clear HB;have BK221:=n0_;have HB:=n1_;clear n0_ n1_;(try clear hb);(try clear hb2);(try clear hk);(try clear hi)) | ((with_reducible refine gate_callee (f:=68) rfl ?_);refine goesL_ (some 11) rfl rfl Tryd.func68 (by kernel_rfl) rfl #[.string t223] rfl (by (try simp only [List.map_toArray,List.map_cons,List.map_nil]);first | done | rfl | (simp only [List.length_drop,List.length_take];rfl)) ?_;(with_reducible refine (spec_Crc15.calls k t223 t224 _ A5.out).mono ?_);rintro e w18 ⟨rfl,hb⟩;refine ⟨_,rfl, ?_⟩;have n0_:=Aside0.mk (blk_below (g:=gb221) (o := .cells #[.bool a0_0, .int .u32 a0_1, .bool a0_2, .int .i64 a0_3, .slice A0_4 l0_4.length c0_4] 29 (0,0)) (by (with_reducible repeat (first | refine blk_drewN ?_ _ | refine blk_drew ?_ | refine blk_alloc ?_ _));exact BK221.out) hb);have n1_:=Aside0.mk (below_step (by repeat (first | (with_reducible first | exact HB.out | apply below_alloc | apply pw_below_drewN | apply below_drew1 | refine below_set ?_ GE221.out) | exact HB.out)) hb);clear BK221;clear HB;have BK221:=n0_;have HB:=n1_;clear n0_ n1_;(try clear hb);(try clear hb2);(try clear hk);(try clear hi)) | ((with_reducible refine gate_callee (f:=59) rfl ?_);refine goesL_ (some 12) rfl rfl Tryd.func59 (by kernel_rfl) rfl #[.int .i64 t224, .int .i64 15] rfl (by (try simp only [List.map_toArray,List.map_cons,List.map_nil]);first | done | rfl | (simp only [List.length_drop,List.length_take];rfl)) ?_;(with_reducible refine (spec_l1num.calls k t224 15 t225 _ A6.out).mono ?_);rintro e w' ⟨rfl,⟨nd,rfl⟩⟩;refine ⟨_,rfl, ?_⟩) | ((with_reducible refine gate_callee (f:=57) rfl ?_);refine goesL_ (some 14) rfl rfl Tryd.func57 (by kernel_rfl) rfl #[.string (t223 ++ t225)] rfl (by (try simp only [List.map_toArray,List.map_cons,List.map_nil]);first | done | rfl | (simp only [List.length_drop,List.length_take];rfl)) ?_;(with_reducible refine (spec_Stuff.calls k (t223 ++ t225) t226 _ A8.out).mono ?_);rintro e w19 ⟨rfl,hb⟩;refine ⟨_,rfl, ?_⟩;have n0_:=Aside0.mk (blk_below (g:=gb221) (o := .cells #[.bool a0_0, .int .u32 a0_1, .bool a0_2, .int .i64 a0_3, .slice A0_4 l0_4.length c0_4] 29 (0,0)) (by (with_reducible repeat (first | refine blk_drewN ?_ _ | refine blk_drew ?_ | refine blk_alloc ?_ _));exact BK221.out) hb);have n1_:=Aside0.mk (below_step (by repeat (first | (with_reducible first | exact HB.out | apply below_alloc | apply pw_below_drewN | apply below_drew1 | refine below_set ?_ GE221.out) | exact HB.out)) hb);clear BK221;clear HB;have BK221:=n0_;have HB:=n1_;clear n0_ n1_;(try clear hb);(try clear hb2);(try clear hk);(try clear hi)))
       go_ret
       exact ⟨by first | rfl | (simp [errW_none,errW_some] <;> rfl) | (simp [*,errW_none,errW_some] <;> rfl),by repeat (first | (with_reducible first | exact HB.out | apply below_alloc | apply pw_below_drewN | apply below_drew1 | refine below_set ?_ GE221.out) | exact HB.out)⟩
      ·rw [if_neg c12] at H
       exact absurd H (by simp)
     ·rw [if_neg c11] at H
      exact absurd H (by simp)
    ·rw [if_neg c10] at H
     exact absurd H (by simp)
   ·rw [if_neg c9] at H
    exact absurd H (by simp)
  ·rw [if_neg c7] at H
   exact absurd H (by simp)
 ·replace c3:=Bool.eq_false_iff.mpr c3
  subst c3
  have H1 : (some (⟨#[]⟩ : ByteArray)) = some r:=by rw [if_neg (show ¬ (false = true) by decide)] at H;exact H
  clear H
  have H:=H1
  clear H1
  obtain rfl:=Option.some.inj H
  go_enter Tryd.func55,Tryd.ntmps55
  go_wp2_with (first | ((with_reducible refine gate_dst (N:=1) rfl ?_);refine box_event ?hg (N:=1) ?hd (cs := #[.bool a0_0, .int .u32 a0_1, .bool a0_2, .int .i64 a0_3, .slice A0_4 l0_4.length c0_4]) (t:=29) ?hr ?_;(case hd => rfl);(case hg => rfl);(case hr => first | (go_simp;done) | (go_simp;rfl));intro gb221 hg w20 hbox hb;have n0_:=Aside0.mk (below_step (by repeat (first | (with_reducible first | exact HB.out | apply below_alloc | apply pw_below_drewN | apply below_drew1) | exact HB.out)) hb);have n1_:=Aside0.mk (hbox);have n2_:=Aside0.mk ((by rw [hg];exact (below_size (by repeat (first | (with_reducible first | exact HB.out | apply below_alloc | apply pw_below_drewN | apply below_drew1) | exact HB.out))) : w.heap.size ≤ gb221));have n3_:=Aside0.mk ((by rw [hg];exact (below_size (by repeat (first | (with_reducible first | exact HB.out | apply below_alloc | apply pw_below_drewN | apply below_drew1) | exact HB.out))) : w.heap.size ≤ gb221));clear HB;have HB:=n0_;have BK221:=n1_;have GW221:=n2_;have GE221:=n3_;clear n0_ n1_ n2_ n3_;clear hb hbox hg;obtain ⟨hcz21_0,hcz21_1,hcz21_2,hcz21_3,hcz21_4⟩:=bc5 BK221.out;obtain ⟨hfz21_0,hfz21_1,hfz21_2,hfz21_3,hfz21_4⟩:=bf5 BK221.out) | ((with_reducible refine gate_callee (f:=73) rfl ?_);refine goesL_ (some 5) rfl rfl Tryd.func73 (by kernel_rfl) rfl #[.agg #[.bool a0_0, .int .u32 a0_1, .bool a0_2, .int .i64 a0_3, .slice A0_4 l0_4.length c0_4]] rfl (by (try simp only [List.map_toArray,List.map_cons,List.map_nil]);first | done | rfl | (simp only [List.length_drop,List.length_take];rfl)) ?_;(with_reducible refine (spec_ValidFrame.calls k a0_0 a0_1 a0_2 a0_3 _ _ l0_4 false _ ?side1 ?side2 A2.out).mono ?_);(case side1 => repeat (first | exact (Kd.C_below HR0_4.out HB.out) | (with_reducible refine Kd.C_alloc ?_ _) | (with_reducible refine Kd.C_drewN ?_ _) | (with_reducible refine Kd.C_drew ?_)));(case side2 => exact HC0_4.out);rintro e w22 ⟨rfl,hb⟩;refine ⟨_,rfl, ?_⟩;have n0_:=Aside0.mk (blk_below (g:=gb221) (o := .cells #[.bool a0_0, .int .u32 a0_1, .bool a0_2, .int .i64 a0_3, .slice A0_4 l0_4.length c0_4] 29 (0,0)) (by (with_reducible repeat (first | refine blk_drewN ?_ _ | refine blk_drew ?_ | refine blk_alloc ?_ _));exact BK221.out) hb);have n1_:=Aside0.mk (below_step (by repeat (first | (with_reducible first | exact HB.out | apply below_alloc | apply pw_below_drewN | apply below_drew1 | refine below_set ?_ GE221.out) | exact HB.out)) hb);clear BK221;clear HB;have BK221:=n0_;have HB:=n1_;clear n0_ n1_;(try clear hb);(try clear hb2);(try clear hk);(try clear hi)))
  go_ret
  exact ⟨by first | rfl | (simp [errW_none,errW_some] <;> rfl) | (simp [*,errW_none,errW_some] <;> rfl),by repeat (first | (with_reducible first | exact HB.out | apply below_alloc | apply pw_below_drewN | apply below_drew1 | refine below_set ?_ GE221.out) | exact HB.out)⟩
end Go.Proofs.YtdoclpgciadjaaaDoor.P
namespace Go.Proofs.YtdoclpgciadjaaaDoor.P
open Go Go.RowKit Go.Proofs.YtdoclpgciadjaaaDoorW.PrintWords
set_option linter.unusedVariables false
theorem one1 : (⟨#[49]⟩ : ByteArray) = strOfNums [49]:=rfl
theorem one7 : (⟨#[49,49,49,49,49,49,49]⟩ : ByteArray) = strOfNums [49,49,49,49,49,49,49]:=rfl
theorem specEncode_ev {e : Bool} {i : Int} {r : Bool} {d : Int} {l : List Int} (hq : 0 ≤ i ∧ okBytes l = true) : Ev (fun k => spec_Encode.f k e i r d l) (encodeV e i r d l):=by
 have h1 : spec_Body.f e i r d l = some (bodyV e i r d l):=by unfold spec_Body.f;rw [if_pos hq]
 unfold spec_Encode.f
 refine Ev.bind (specValid_ev e i r d l) ?_
 unfold encodeV
 cases hv : validF e i r d l.length with
 | false => exact ev_neg (by decide) (Ev.now _)
 | true =>
  obtain ⟨-, -, -, -,hn8⟩:=valid_parts hv
  have hB : bodyV e i r d l = strOfNums (bodyL e i r d l):=by unfold bodyV;rw [if_pos hv]
  have hbb:=bodyL_bits e i r d l
  have hbl:=bodyL_length e i r d l hn8
  have hpb:=plainL_bits e i r d l
  have hpl:=plainL_length e i r d l hn8
  rw [hB] at h1
  refine ev_pos rfl (ev_some h1 ?_)
  unfold plainL at hpb hpl ⊢
  generalize bodyL e i r d l = B at hbb hbl hpb hpl ⊢
  have hc : crcV (strOfNums B) = (crcL B : Int):=by
   unfold crcV
   rw [if_pos ⟨by rw [strOfNums_size];omega,isBits_str hbb⟩,bytes_str B hbb.range]
  have hE:=specCrc15_ev (strOfNums B) (by rw [strOfNums_size];omega)
  rw [hc] at hE
  have hlt:=crcL_lt B
  have hN : Ev (fun k => spec_l1num.f k (crcL B : Int) 15) (strOfNums (numL (crcL B) 15)):=l1num_ev 15 (crcL B) (by omega) (by omega)
  refine Ev.bind hE (Ev.bind hN (ev_pos (by rw [strOfNums_size,strOfNums_size,numL_length];omega) ?_))
  rw [← str_append]
  generalize B ++ numL (crcL B) 15 = P at hpb hpl ⊢
  have hst : stuffV (strOfNums P) = strOfNums (stuffL P):=by
   unfold stuffV
   rw [if_pos ⟨by rw [strOfNums_size];omega,isBits_str hpb⟩,bytes_str P hpb.range]
  have hS:=specStuff_ev (strOfNums P) (by rw [strOfNums_size];omega)
  rw [hst] at hS
  have hz:=stuffL_len P
  refine Ev.bind hS ?_
  simp only [one1,one7, ← str_append,strOfNums_size,List.length_append,List.length_cons,List.length_nil]
  refine ev_pos (by omega) (ev_pos (by omega) (ev_pos (by omega) (ev_pos (by omega) ?_)))
  rw [if_pos trivial,show stuffL P ++ [49] ++ [49] ++ [49] ++ [49,49,49,49,49,49,49] = stuffL P ++ onesL by simp [onesL]]
  exact Ev.now _
end Go.Proofs.YtdoclpgciadjaaaDoor.P
namespace Go.Proofs.YtdoclpgciadjaaaDoor.P
open Go Go.RowKit Go.Proofs.YtdoclpgciadjaaaDoorW.PrintWords Go.Proofs.YtdoclpgciadjaaaDoorW.PrintLast
set_option linter.unusedVariables false
theorem stuffL_ge (l : List Int) : l.length ≤ (stuffL l).length:=by
 unfold stuffL
 have key : ∀ (l : List Int) (st : List Int × Int × Int),st.1.length + l.length ≤ (l.foldl stuffStep st).1.length:=by
  intro l
  induction l with
  | nil => intro st;simp
  | cons c l ih =>
   intro st
   have h1 : st.1.length + 1 ≤ (stuffStep st c).1.length:=by
    unfold stuffStep
    generalize (if c = st.2.2 then st.2.1 + 1 else 1) = q
    split <;> simp
   have:=ih (stuffStep st c)
   rw [List.foldl_cons,List.length_cons]
   omega
 have:=key l ([],0,120)
 simpa using this
theorem encode_size {e : Bool} {i : Int} {r : Bool} {d : Int} {l : List Int} (hv : validF e i r d l.length = true) : 20 ≤ (encodeV e i r d l).size ∧ (encodeV e i r d l).size ≤ 246:=by
 obtain ⟨-, -, -, -,h5⟩:=valid_parts hv
 have h1:=plainL_length e i r d l h5
 have h2:=stuffL_len (plainL e i r d l)
 have h3:=stuffL_ge (plainL e i r d l)
 have h4 : 15 ≤ (plainL e i r d l).length:=by unfold plainL;rw [List.length_append,numL_length];omega
 unfold encodeV
 rw [if_pos hv,strOfNums_size,List.length_append,show onesL.length = 10 from rfl]
 omega
theorem stuffV_size (s : ByteArray) : (stuffV s).size ≤ 2 * s.size:=by
 unfold stuffV
 split
 ·rw [strOfNums_size]
  have:=stuffL_len (bytesOf s)
  rw [bytesOf_length] at this
  exact this
 ·exact Nat.zero_le _
structure Hs (w0 W : World) (g h : Nat) (s0 : List Int) (i s : Int) (e : Bool) (id : Int) (r : Bool) (d : Int) (l : List Int) (A : Option Addr) (c : Nat) : Prop where
 src : IsS80 w0 W g s0 i s
 bel : Below w0.heap.size w0 W
 box : W.heap[h]? = some (.cells #[.bool e, .int .u32 id, .bool r, .int .i64 d, .slice A l.length c] 29 (0,0))
 row : Kd.R (Kd.int .u8) 5 W w0.heap.size (fun k => k ≠ g ∧ k < h) (.slice A l.length c) l
 gh : g < h
section
variable {w0 W W2 : World} {g h : Nat} {s0 : List Int} {i s i2 s2 : Int} {e : Bool} {id : Int} {r : Bool} {d : Int} {l : List Int} {A : Option Addr} {c : Nat}
theorem Hs.lt (H : Hs w0 W g h s0 i s e id r d l A c) : h < W.heap.size:=(Array.getElem?_eq_some_iff.1 H.box).1
theorem Hs.keep (H : Hs w0 W g h s0 i s e id r d l A c) (hi : IsS80 w0 W2 g s0 i2 s2) (hb : Below w0.heap.size w0 W2) (hk : KeepBut W W2 g none) : Hs w0 W2 g h s0 i2 s2 e id r d l A c:=by
 have hl:=H.lt
 have hg:=H.gh
 exact ⟨hi,hb,(hk.2 h hl (by omega) (by simp)).trans H.box,Kd.R_step H.row (fun k hk1 hk2 => hk.2 k (by omega) hk1.1 (by simp)),H.gh⟩
theorem Hs.step (H : Hs w0 W g h s0 i s e id r d l A c) (hb : Below W.heap.size W W2) : Hs w0 W2 g h s0 i s e id r d l A c :=
 ⟨H.src.below hb,H.bel.trans (hb.mono H.bel.size),blk_below H.box hb,Kd.R_below H.row hb,H.gh⟩
theorem Hs.set (H : Hs w0 W g h s0 i s e id r d l A c) {b j : Nat} (hb : h < b) (u : Value) : Hs w0 (W.setCell ⟨b,j,none⟩ u) g h s0 i s e id r d l A c:=by
 have hg:=H.gh
 have hs:=H.bel.size
 have hge:=H.src.ge
 exact ⟨H.src.far (show g ≠ b by omega) u,H.bel.setCell (show w0.heap.size ≤ b by omega) _,(Below.heap_setCell _ _ _ _ (show h ≠ b by omega)).trans H.box,Kd.R_step H.row (fun k hk1 _ => Below.heap_setCell _ _ _ k (show k ≠ b by have:=hk1.2;omega)),H.gh⟩
theorem Hs.C (H : Hs w0 W g h s0 i s e id r d l A c) : Kd.C (Kd.int .u8) W A l.length l ∧ l.length ≤ c:=⟨(Kd.R_reads' H.row).2.2,(Kd.R_reads' H.row).2.1⟩
theorem Hs.new {w1 w : World} (hi : IsS80 w0 w1 g s0 i s) (hb : Below w0.heap.size w0 w1) (hgl : g < w.heap.size) (hs : w0.heap.size ≤ w.heap.size) (hr : Kd.R (Kd.int .u8) 5 w1 w.heap.size (fun _ => True) (.slice A l.length c) l) (hsz : w.heap.size ≤ w1.heap.size) : Hs w0 (w1.alloc (.cells #[.bool e, .int .u32 id, .bool r, .int .i64 d, .slice A l.length c] 29 (0,0))) g w1.heap.size s0 i s e id r d l A c:=by
 refine ⟨hi.alloc _,hb.alloc hb.size _,blk_new _ _,Kd.R_alloc (Kd.R_mono (Kd.R_lower (Kd.R_bound hr) hs) (fun k hk => ?_)) _,by omega⟩
 have h3:=hk.2.1
 have h4:=hk.2.2.1
 exact ⟨by omega,h4⟩
end
set_option maxRecDepth 100000 in
set_option maxHeartbeats 8000000 in
theorem heard_calls (g : Nat) (s0 : List Int) (i s : Int) (w0 w : World) (hi0 : 0 ≤ i) (hi1 : i ≤ 1000) (hI : IsS80 w0 w g s0 i s) (hB : Below w0.heap.size w0 w) :
  Calls Tryd.prog 39 #[.pointer (some ⟨g,0,none⟩)] w fun e w' => ∃ (t : ByteArray) (i' s' : Int),e = .returned (.string t) ∧ t.size ≤ 2000 ∧ IsS80 w0 w' g s0 i' s' ∧ 0 ≤ i' ∧ i' ≤ 100000 ∧ Below w0.heap.size w0 w':=by
 obtain ⟨fe,id,fr,fd,fl,i1,s1,hE,hf,hv,hd0,hd1,hl,k1,k2⟩:=genFrame_ex s0 i s hi0 (by omega)
 obtain ⟨K1,hG⟩:=hE.rounds
 have hq : 0 ≤ id ∧ okBytes fl = true:=⟨hf.id0,hf.bytes⟩
 have hval : validF fe id fr fd fl.length = true:=by
  unfold validF
  rw [decide_eq_true hv,decide_eq_true hd0,decide_eq_true hd1,beq_iff_eq.mpr hl];rfl
 obtain ⟨K2,hEn⟩:=(specEncode_ev (e:=fe) (r:=fr) (d:=fd) hq).rounds
 obtain ⟨hz0,hz1⟩:=encode_size hval
 generalize encodeV fe id fr fd fl = E at hEn hz0 hz1
 obtain ⟨v2,s2,e2,h20,h21⟩:=n_ex s0 i1 s1 2 (by omega) (by omega) (by omega) (by omega)
 obtain ⟨v8,s3,e8,h80,h81⟩:=n_ex s0 (i1 + 1) s2 8 (by omega) (by omega) (by omega) (by omega)
 have HI:=Lib.hid hI
 have HB:=Lib.hid hB
 have HG:=Lib.hid hG
 have HEN:=Lib.hid hEn
 have HN2:=Lib.hid e2
 have HN8:=Lib.hid e8
 have HZ : Hid (E.size ≤ 10000000):=Lib.hid (by omega)
 have HV:=Lib.hid hval
 have HQ:=Lib.hid hq
 have hc0 : 0 ≤ i1 + 1 + 1:=by omega
 have hc1 : i1 + 1 + 1 ≤ 2000:=by omega
 have hv8 : v8 = 0 ∨ v8 = 1 ∨ v8 = 2 ∨ v8 = 3 ∨ v8 = 4 ∨ v8 = 5 ∨ v8 = 6 ∨ v8 = 7:=by omega
 clear hI hB hE hG hEn e2 e8 hval hq hf hv hd0 hd1 hl k1 k2 h20 h21 h80 h81 hi0 hi1
 obtain ⟨j,hj⟩ : ∃ j : Nat,E.size = j + 9:=⟨E.size - 9,by omega⟩
 have hw1 : wrap64 ((E.size : Int) - 9) = (j : Int):=by unfold wrap64;omega
 have hw2 : IntKind.i64.wrap ((E.size : Int) - 9) = (j : Int):=by rw [IntKind.wrap_i64];omega
 have p5 : (0 ≤ (j : Int)) = True:=eq_true (by omega)
 have q5 : ((j : Int) < (E.size : Int)) = True:=eq_true (by omega)
 have HJ:=Lib.hid hj
 clear hj
 go_enter Tryd.func39,Tryd.ntmps39
 go_wp2_with (fail)
 (refine (spec_l1genFrame.calls K1 g s0 i s fe id fr fd fl i1 s1 w0 _ HI.out HB.out HG.out).mono ?_;rintro e w1 ⟨v4,rfl,hr1,hi1,hb1,hk1⟩;obtain ⟨A4,c4,rfl⟩:=Kd.R_slice hr1;have H1:=Lib.hid (Hs.new (e:=fe) (id:=id) (r:=fr) (d:=fd) hi1 hb1 HI.out.lt HB.out.size hr1 hk1.1);clear hr1 hi1 hb1 hk1)
 have hb0:=blk_cell H1.out.box 0
 have hb1:=blk_cell H1.out.box 1
 have hb2:=blk_cell H1.out.box 2
 have hb3:=blk_cell H1.out.box 3
 have hb4:=blk_cell H1.out.box 4
 go_wp2_with (fail)
 (refine (spec_Encode.calls K2 fe id fr fd A4 c4 fl E _ H1.out.C.1 H1.out.C.2 HEN.out).mono ?_;rintro e w2 ⟨rfl,hd2⟩;have H2:=Lib.hid (H1.out.step hd2);clear hd2 hb0 hb1 hb2 hb3 hb4)
 have hcv:=Lib.run_convert_string_bytes (P:=Tryd.prog) w2 9 23 5 E Tryd.underlying9 Tryd.underlying23 Tryd.underlying5
 go_wp2_with (fail)
 (refine (spec_l1src_n.calls g s0 i1 s1 2 v2 (i1 + 1) s2 w0 _ (H2.out.src.below (below_bytes (Below.refl _ _) (Nat.le_refl _) _ _)) (below_bytes H2.out.bel H2.out.bel.size _ _) HN2.out).mono ?_;rintro e w3 ⟨rfl,hi3,hb3,hk3⟩;have HZ3:=Lib.hid (Lib.bytesWorld_size w2 5 E);have H3:=Lib.hid ((H2.out.step (below_bytes (Below.refl _ _) (Nat.le_refl _) _ _)).keep hi3 hb3 hk3);have HROW3 : Hid (BRow 5 w3 w2.heap.size (grownCap w2 E.size 0 5) (bytesOf E)):=Lib.hid ((BRow.new w2 5 E (by have:=HZ.out;unfold maxLen;omega)).move (hk3.2 _ (by have:=HZ3.out;omega) (by have:=H2.out.src.lt;omega) (by simp)));clear hi3 hb3 hk3 hcv)
 have HH2 : Hid (w1.heap.size < w2.heap.size):=Lib.hid H2.out.lt
 by_cases cv : v2 = 0
 case' pos =>
  subst cv
  obtain ⟨hx0,hfx0⟩:=HROW3.out.cell j (by rw [bytesOf_length];have:=HJ.out;omega)
  have HSET:=Lib.hid (HROW3.out.set j (by rw [bytesOf_length];have:=HJ.out;omega) 48)
  have hcv2:=BRow.string (P:=Tryd.prog) (by rw [List.length_set,bytesOf_length]) Tryd.underlying23 Tryd.underlying5 Tryd.underlying9 HSET.out
  have H4:=Lib.hid (H3.out.set (b:=w2.heap.size) (j:=j) HH2.out (.int .u8 48))
  have hTz : (strOfNums ((bytesOf E).set j 48)).size = E.size:=by rw [strOfNums_size,List.length_set,bytesOf_length]
  generalize strOfNums ((bytesOf E).set j 48) = T at hcv2 hTz
  have hT0 : 20 ≤ T.size:=by omega
  have hT1 : T.size ≤ 246:=by omega
  clear hTz
  go_wp2_with (fail)
  (refine (spec_l1src_n.calls g s0 (i1 + 1) s2 8 v8 (i1 + 1 + 1) s3 w0 _ H4.out.src H4.out.bel HN8.out).mono ?_;rintro e w5 ⟨rfl,hi5,hb5,hk5⟩;have H5:=Lib.hid (H4.out.keep hi5 hb5 hk5);clear hi5 hb5 hk5 hcv2;(try clear hx0 hfx0))
 case' neg =>
  have hv2 : (v2 == 0) = false:=beq_eq_false_iff_ne.mpr cv
  clear cv
  have hcv2:=BRow.string (P:=Tryd.prog) (bytesOf_length E) Tryd.underlying23 Tryd.underlying5 Tryd.underlying9 HROW3.out
  have hTz : (strOfNums (bytesOf E)).size = E.size:=by rw [strOfNums_size,bytesOf_length]
  generalize strOfNums (bytesOf E) = T at hcv2 hTz
  have hT0 : 20 ≤ T.size:=by omega
  have hT1 : T.size ≤ 246:=by omega
  clear hTz
  go_wp2_with (fail)
  (refine (spec_l1src_n.calls g s0 (i1 + 1) s2 8 v8 (i1 + 1 + 1) s3 w0 _ H3.out.src H3.out.bel HN8.out).mono ?_;rintro e w5 ⟨rfl,hi5,hb5,hk5⟩;have H5:=Lib.hid (H3.out.keep hi5 hb5 hk5);clear hi5 hb5 hk5 hcv2;(try clear hx0 hfx0))
 all_goals
  clear HN8 HN2 HG HEN hw1 hw2 p5 q5 hz0 hz1
  generalize i1 + 1 + 1 = i3 at H5 hc0 hc1
  rcases hv8 with rfl | rfl | rfl | rfl | rfl | rfl | rfl | rfl
  ·obtain ⟨u,jj,qq,hsp,hu,hj0,hj1⟩:=spoil_ex s0 i3 s3 T (by omega) (by omega) (by omega)
   have HSP:=Lib.hid hsp
   clear hsp
   go_wp2_with (fail)
   (refine (spec_l1spoil.calls g s0 i3 s3 T u jj qq w0 _ H5.out.src H5.out.bel HSP.out).mono ?_;rintro e w6 ⟨rfl,hi,hb,hk⟩;have H6:=Lib.hid (H5.out.keep hi hb hk);clear hi hb hk)
   go_wp2_with (fail)
   go_ret
   exact ⟨_,_,_,rfl,by omega,H6.out.src,hj0,by omega,H6.out.bel⟩
  ·obtain ⟨v,s4,en,hv0,hv1⟩:=n_ex s0 i3 s3 ((T.size : Int) + 1) (by omega) (by omega) (by omega) (by omega)
   obtain ⟨k,rfl⟩ : ∃ k : Nat,v = (k : Int):=⟨v.toNat,by omega⟩
   have HN:=Lib.hid en
   clear en
   have a1 : wrap64 ((T.size : Int) + 1) = (T.size : Int) + 1:=by unfold wrap64;omega
   have a2 : IntKind.i64.wrap ((T.size : Int) + 1) = (T.size : Int) + 1:=by rw [IntKind.wrap_i64];omega
   have c1 : (0 ≤ (k : Int)) = True:=eq_true (by omega)
   have c2 : ((k : Int) ≤ (T.size : Int)) = True:=eq_true (by omega)
   have c3 : (k ≤ T.size) = True:=eq_true (by omega)
   obtain ⟨X,hX⟩ : ∃ X,T.extract 0 k = X:=⟨_,rfl⟩
   have sX : X.size = k:=by rw [← hX,ByteArray.size_extract];omega
   go_wp2_with (fail)
   (refine (spec_l1src_n.calls g s0 i3 s3 _ (k : Int) (i3 + 1) s4 w0 _ H5.out.src H5.out.bel HN.out).mono ?_;rintro e w6 ⟨rfl,hi,hb,hk⟩;have H6:=Lib.hid (H5.out.keep hi hb hk);clear hi hb hk)
   go_wp2_with (fail)
   go_ret
   exact ⟨_,_,_,rfl,by omega,H6.out.src,by omega,by omega,H6.out.bel⟩
  ·obtain ⟨v,s4,en,hv0,hv1⟩:=n_ex s0 i3 s3 (T.size : Int) (by omega) (by omega) (by omega) (by omega)
   obtain ⟨k,rfl⟩ : ∃ k : Nat,v = (k : Int):=⟨v.toNat,by omega⟩
   have HN:=Lib.hid en
   clear en
   obtain ⟨m,hm⟩ : ∃ m : Nat,(m : Int) = 1 + (k : Int):=⟨k + 1,by omega⟩
   have a1 : wrap64 (1 + (k : Int)) = (m : Int):=by unfold wrap64;omega
   have a2 : IntKind.i64.wrap (1 + (k : Int)) = (m : Int):=by rw [IntKind.wrap_i64];omega
   have c1 : (0 ≤ (m : Int)) = True:=eq_true (by omega)
   have c2 : ((m : Int) ≤ (T.size : Int)) = True:=eq_true (by omega)
   have c3 : (m ≤ T.size) = True:=eq_true (by omega)
   obtain ⟨X,hX⟩ : ∃ X,T.extract 0 m = X:=⟨_,rfl⟩
   have sX : X.size = m:=by rw [← hX,ByteArray.size_extract];omega
   obtain ⟨u,jj,qq,hsp,hu,hj0,hj1⟩:=spoil_ex s0 (i3 + 1) s4 X (by omega) (by omega) (by omega)
   have HSP:=Lib.hid hsp
   clear hsp
   have HM:=Lib.hid hm
   clear hm
   go_wp2_with (fail)
   (refine (spec_l1src_n.calls g s0 i3 s3 _ (k : Int) (i3 + 1) s4 w0 _ H5.out.src H5.out.bel HN.out).mono ?_;rintro e w6 ⟨rfl,hi,hb,hk⟩;have H6:=Lib.hid (H5.out.keep hi hb hk);clear hi hb hk)
   go_wp2_with (fail)
   (refine (spec_l1spoil.calls g s0 (i3 + 1) s4 X u jj qq w0 _ H6.out.src H6.out.bel HSP.out).mono ?_;rintro e w7 ⟨rfl,hi,hb,hk⟩;have H7:=Lib.hid (H6.out.keep hi hb hk);clear hi hb hk)
   go_wp2_with (fail)
   go_ret
   exact ⟨_,_,_,rfl,by have:=HM.out;omega,H7.out.src,hj0,by omega,H7.out.bel⟩
  ·obtain ⟨v,s4,en,hv0,hv1⟩:=n_ex s0 i3 s3 9 (by omega) (by omega) (by omega) (by omega)
   obtain ⟨k,rfl⟩ : ∃ k : Nat,v = (k : Int):=⟨v.toNat,by omega⟩
   have HN:=Lib.hid en
   clear en
   obtain ⟨m,hm⟩ : ∃ m : Nat,(m : Int) = (T.size : Int) - (k : Int):=⟨T.size - k,by omega⟩
   have a1 : wrap64 ((T.size : Int) - (k : Int)) = (m : Int):=by unfold wrap64;omega
   have a2 : IntKind.i64.wrap ((T.size : Int) - (k : Int)) = (m : Int):=by rw [IntKind.wrap_i64];omega
   have c1 : (0 ≤ (m : Int)) = True:=eq_true (by omega)
   have c2 : ((m : Int) ≤ (T.size : Int)) = True:=eq_true (by omega)
   have c3 : (m ≤ T.size) = True:=eq_true (by omega)
   obtain ⟨X,hX⟩ : ∃ X,T.extract 0 m = X:=⟨_,rfl⟩
   have sX : X.size = m:=by rw [← hX,ByteArray.size_extract];omega
   have HM:=Lib.hid hm
   clear hm
   go_wp2_with (fail)
   (refine (spec_l1src_n.calls g s0 i3 s3 _ (k : Int) (i3 + 1) s4 w0 _ H5.out.src H5.out.bel HN.out).mono ?_;rintro e w6 ⟨rfl,hi,hb,hk⟩;have H6:=Lib.hid (H5.out.keep hi hb hk);clear hi hb hk)
   go_wp2_with (fail)
   go_ret
   exact ⟨_,_,_,rfl,by have:=HM.out;omega,H6.out.src,by omega,by omega,H6.out.bel⟩
  ·obtain ⟨v,s4,en,hv0,hv1⟩:=n_ex s0 i3 s3 12 (by omega) (by omega) (by omega) (by omega)
   obtain ⟨k,rfl⟩ : ∃ k : Nat,v = (k : Int):=⟨v.toNat,by omega⟩
   have HN:=Lib.hid en
   clear en
   obtain ⟨m,hm⟩ : ∃ m : Nat,(m : Int) = (T.size : Int) - (k : Int):=⟨T.size - k,by omega⟩
   have a1 : wrap64 ((T.size : Int) - (k : Int)) = (m : Int):=by unfold wrap64;omega
   have a2 : IntKind.i64.wrap ((T.size : Int) - (k : Int)) = (m : Int):=by rw [IntKind.wrap_i64];omega
   have c1 : (0 ≤ (m : Int)) = True:=eq_true (by omega)
   have c2 : ((m : Int) ≤ (T.size : Int)) = True:=eq_true (by omega)
   have c3 : (m ≤ T.size) = True:=eq_true (by omega)
   obtain ⟨X,hX⟩ : ∃ X,T.extract 0 m = X:=⟨_,rfl⟩
   have sX : X.size = m:=by rw [← hX,ByteArray.size_extract];omega
   obtain ⟨⟨R,jj,qq⟩,hR,hRz,hj0,hj1⟩:=gen_ex s0 (i3 + 1) s4 3 (by omega) (by omega) (by omega) (by omega)
   obtain ⟨KT,hGT⟩:=hR.rounds
   have HGT:=Lib.hid hGT
   clear hR hGT
   simp only [] at hRz hj0 hj1
   have z1 : (9223372036854775807 < m + R.size) = False:=eq_false (by omega)
   have hmm : m ≤ 300:=by omega
   have HM:=Lib.hid hm
   clear hm
   go_wp2_with (fail)
   have H5d:=Lib.hid (H5.out.step (below_drew (Below.refl _ _)))
   go_region_with (first | (go_at_call 38;(refine (spec_l1src_n.calls g s0 i3 s3 _ (k : Int) (i3 + 1) s4 w0 _ H5d.out.src H5d.out.bel HN.out).mono ?_;rintro e w6 ⟨rfl,hi,hb,hk⟩;have H6:=Lib.hid (H5d.out.keep hi hb hk);clear hi hb hk)) | (go_at_call 41;(refine (spec_l1genText.calls KT g s0 (i3 + 1) s4 3 R jj qq w0 _ H6.out.src H6.out.bel HGT.out).mono ?_;rintro e w7 ⟨rfl,hi,hb,hk⟩;have H7:=Lib.hid (H6.out.keep hi hb hk);clear hi hb hk)))
   all_goals
    go_wp2_with (fail)
    go_ret
    exact ⟨_,_,_,rfl,by rw [ByteArray.size_append];omega,H7.out.src,hj0,by omega,H7.out.bel⟩
  ·obtain ⟨Bd,hBd⟩ : ∃ Bd,strOfNums (bodyL fe id fr fd fl) = Bd:=⟨_,rfl⟩
   have hBz : Bd.size ≤ 103:=by rw [← hBd,strOfNums_size];exact bodyL_length _ _ _ _ _ (valid_parts HV.out).2.2.2.2
   obtain ⟨u,jj,qq,hsp,hu,hj0,hj1⟩:=spoil_ex s0 i3 s3 Bd (by omega) (by omega) (by omega)
   have HSP:=Lib.hid hsp
   clear hsp
   have huz : u.size ≤ 103:=by omega
   clear hu
   obtain ⟨v,s4,en,hv0,hv1⟩:=n_ex s0 jj qq 32768 (by omega) (by omega) (by omega) (by omega)
   obtain ⟨k,rfl⟩ : ∃ k : Nat,v = (k : Int):=⟨v.toNat,by omega⟩
   have HN:=Lib.hid en
   clear en
   obtain ⟨N5,hN5⟩ : ∃ N5,strOfNums (numL k 15) = N5:=⟨_,rfl⟩
   have hNz : N5.size = 15:=by rw [← hN5,strOfNums_size,numL_length]
   have z1 : (9223372036854775807 < u.size + 15) = False:=eq_false (by omega)
   have HUN : Hid ((u ++ N5).size ≤ 118):=Lib.hid (by rw [ByteArray.size_append];omega)
   obtain ⟨S,hS⟩ : ∃ S,stuffV (u ++ N5) = S:=⟨_,rfl⟩
   have hSz : S.size ≤ 236:=by have h1:=stuffV_size (u ++ N5);have h2:=HUN.out;rw [← hS];omega
   obtain ⟨K5,hK5⟩:=(specStuff_ev (u ++ N5) (by have:=HUN.out;omega)).rounds
   rw [hS] at hK5
   have HK5:=Lib.hid hK5
   have HBD:=Lib.hid hBd
   have HN5:=Lib.hid hN5
   clear hK5 hS hBd hN5
   have z2 : (9223372036854775807 < S.size + 10) = False:=eq_false (by omega)
   obtain ⟨T2,hT2⟩ : ∃ T2,S ++ (⟨#[49,49,49,49,49,49,49,49,49,49]⟩ : ByteArray) = T2:=⟨_,rfl⟩
   have hT3 : 10 ≤ T2.size:=by rw [← hT2,ByteArray.size_append,show (⟨#[49,49,49,49,49,49,49,49,49,49]⟩ : ByteArray).size = 10 from rfl];omega
   have hT4 : T2.size ≤ 246:=by rw [← hT2,ByteArray.size_append,show (⟨#[49,49,49,49,49,49,49,49,49,49]⟩ : ByteArray).size = 10 from rfl];omega
   obtain ⟨x,s5,en2,hx0,hx1⟩:=n_ex s0 (jj + 1) s4 11 (by omega) (by omega) (by omega) (by omega)
   obtain ⟨y,rfl⟩ : ∃ y : Nat,x = (y : Int):=⟨x.toNat,by omega⟩
   have HM2:=Lib.hid en2
   clear en2
   obtain ⟨m,hm⟩ : ∃ m : Nat,(m : Int) = (T2.size : Int) - (y : Int):=⟨T2.size - y,by omega⟩
   have a1 : wrap64 ((T2.size : Int) - (y : Int)) = (m : Int):=by unfold wrap64;omega
   have a2 : IntKind.i64.wrap ((T2.size : Int) - (y : Int)) = (m : Int):=by rw [IntKind.wrap_i64];omega
   have c1 : (0 ≤ (m : Int)) = True:=eq_true (by omega)
   have c2 : ((m : Int) ≤ (T2.size : Int)) = True:=eq_true (by omega)
   have c3 : (m ≤ T2.size) = True:=eq_true (by omega)
   obtain ⟨X,hX⟩ : ∃ X,T2.extract 0 m = X:=⟨_,rfl⟩
   have sX : X.size ≤ 2000:=by rw [← hX,ByteArray.size_extract];omega
   have HM:=Lib.hid hm
   clear hm
   have hb0:=blk_cell H5.out.box 0
   have hb1:=blk_cell H5.out.box 1
   have hb2:=blk_cell H5.out.box 2
   have hb3:=blk_cell H5.out.box 3
   have hb4:=blk_cell H5.out.box 4
   go_wp2_with (fail)
   (refine (spec_Body.yes fe id fr fd A4 c4 fl _ H5.out.C.1 H5.out.C.2 HQ.out.1 HQ.out.2 HV.out).mono ?_;rw [HBD.out];rintro e w6 ⟨rfl,hd⟩;have H6:=Lib.hid (H5.out.step hd);clear hd hb0 hb1 hb2 hb3 hb4)
   go_wp2_with (fail)
   (refine (spec_l1spoil.calls g s0 i3 s3 Bd u jj qq w0 _ H6.out.src H6.out.bel HSP.out).mono ?_;rintro e w7 ⟨rfl,hi,hb,hk⟩;have H7:=Lib.hid (H6.out.keep hi hb hk);clear hi hb hk)
   go_wp2_with (fail)
   (refine (spec_l1src_n.calls g s0 jj qq _ (k : Int) (jj + 1) s4 w0 _ H7.out.src H7.out.bel HN.out).mono ?_;rintro e w8 ⟨rfl,hi,hb,hk⟩;have H8:=Lib.hid (H7.out.keep hi hb hk);clear hi hb hk)
   go_wp2_with (fail)
   (refine (spec_l1num.at (k : Int) 15 k 15 _ rfl (by omega) rfl (by omega)).mono ?_;rw [HN5.out];rintro e w9 ⟨rfl,n_,hw⟩;have H9:=Lib.hid (H8.out.step (show Below w8.heap.size w8 w9 by rw [hw];exact pw_below_drewN (Below.refl _ _) n_));clear hw)
   go_wp2_with (fail)
   (refine (spec_Stuff.calls K5 _ S _ HK5.out).mono ?_;rintro e w10 ⟨rfl,hd⟩;have H10:=Lib.hid (H9.out.step hd);clear hd)
   go_wp2_with (fail)
   (refine (spec_l1src_n.calls g s0 (jj + 1) s4 _ (y : Int) ((jj + 1) + 1) s5 w0 _ H10.out.src H10.out.bel HM2.out).mono ?_;rintro e w11 ⟨rfl,hi,hb,hk⟩;have H11:=Lib.hid (H10.out.keep hi hb hk);clear hi hb hk)
   go_wp2_with (fail)
   go_ret
   exact ⟨_,_,_,rfl,sX,H11.out.src,by omega,by omega,H11.out.bel⟩
  ·obtain ⟨v,s4,en,hv0,hv1⟩:=n_ex s0 i3 s3 ((T.size : Int) + 1) (by omega) (by omega) (by omega) (by omega)
   obtain ⟨k,rfl⟩ : ∃ k : Nat,v = (k : Int):=⟨v.toNat,by omega⟩
   have HN:=Lib.hid en
   clear en
   have a1 : wrap64 ((T.size : Int) + 1) = (T.size : Int) + 1:=by unfold wrap64;omega
   have a2 : IntKind.i64.wrap ((T.size : Int) + 1) = (T.size : Int) + 1:=by rw [IntKind.wrap_i64];omega
   have c1 : (0 ≤ (k : Int)) = True:=eq_true (by omega)
   have c2 : ((k : Int) ≤ (T.size : Int)) = True:=eq_true (by omega)
   have c3 : (k ≤ T.size) = True:=eq_true (by omega)
   obtain ⟨X,hX⟩ : ∃ X,T.extract 0 k = X:=⟨_,rfl⟩
   have sX : X.size = k:=by rw [← hX,ByteArray.size_extract];omega
   obtain ⟨⟨R,jj,qq⟩,hR,hRz,hj0,hj1⟩:=gen_ex s0 (i3 + 1) s4 6 (by omega) (by omega) (by omega) (by omega)
   obtain ⟨KT,hGT⟩:=hR.rounds
   have HGT:=Lib.hid hGT
   clear hR hGT
   simp only [] at hRz hj0 hj1
   have z1 : (9223372036854775807 < k + R.size) = False:=eq_false (by omega)
   go_wp2_with (fail)
   have H5d:=Lib.hid (H5.out.step (below_drew (Below.refl _ _)))
   go_region_with (first | (go_at_call 38;(refine (spec_l1src_n.calls g s0 i3 s3 _ (k : Int) (i3 + 1) s4 w0 _ H5d.out.src H5d.out.bel HN.out).mono ?_;rintro e w6 ⟨rfl,hi,hb,hk⟩;have H6:=Lib.hid (H5d.out.keep hi hb hk);clear hi hb hk)) | (go_at_call 41;(refine (spec_l1genText.calls KT g s0 (i3 + 1) s4 6 R jj qq w0 _ H6.out.src H6.out.bel HGT.out).mono ?_;rintro e w7 ⟨rfl,hi,hb,hk⟩;have H7:=Lib.hid (H6.out.keep hi hb hk);clear hi hb hk)))
   all_goals
    go_wp2_with (fail)
    go_ret
    exact ⟨_,_,_,rfl,by rw [ByteArray.size_append];omega,H7.out.src,hj0,by omega,H7.out.bel⟩
  ·go_wp2_with (fail)
   go_ret
   exact ⟨_,_,_,rfl,by omega,H5.out.src,by omega,by omega,H5.out.bel⟩
set_option maxRecDepth 100000 in
set_option maxHeartbeats 8000000 in
theorem drawJudge_calls (A : Option Addr) (c : Nat) (l : List Int) (w : World) (hr : Kd.C (Kd.int .u8) w A l.length l) (hc : l.length ≤ c) :
  Calls Tryd.prog 12 #[.slice A l.length c] w fun e w' => ∃ t : ByteArray,e = .returned (.string t) ∧ t.size ≤ 500000 ∧ Below w.heap.size w w':=by
 have HR:=Lib.hid hr
 have HC:=Lib.hid hc
 clear hr hc
 obtain ⟨v,s1,en,hv0,hv1⟩:=n_ex l 0 (IntKind.u64.wrap ((IntKind.u64.wrap ((l.length : Int))) + 77)) 12 (by omega) (by omega) (by omega) (by omega)
 have HNW : Hid (spec_l1new.f l = some (l,0,IntKind.u64.wrap ((IntKind.u64.wrap ((l.length : Int))) + 77))):=Lib.hid rfl
 generalize IntKind.u64.wrap ((IntKind.u64.wrap ((l.length : Int))) + 77) = s0 at en HNW
 have HN:=Lib.hid en
 clear en
 obtain ⟨Rp,hRp,hRz⟩:=repeat_ex (⟨#[49]⟩ : ByteArray) (by decide) 3850 0 ⟨#[]⟩ (by omega) (by decide)
 obtain ⟨KR,hKR⟩:=hRp.rounds
 have HRP : Hid (spec_l1repeat.f KR (⟨#[49]⟩ : ByteArray) 3850 = some Rp):=Lib.hid hKR
 clear hRp hKR
 go_enter Tryd.func12,Tryd.ntmps12
 go_wp2_with (fail)
 (refine (spec_l1new.calls A c l l 0 s0 w _ (Below.refl _ _) HR.out HC.out HNW.out).mono ?_;rintro e w1 ⟨g,rfl,hi,hb, -⟩;have HI1:=Lib.hid hi;have HB1:=Lib.hid hb;clear hi hb)
 go_wp2_with (fail)
 (refine (spec_l1src_n.calls g l 0 s0 12 v (0 + 1) s1 w _ HI1.out HB1.out HN.out).mono ?_;rintro e w2 ⟨rfl,hi,hb,hk⟩;have HI2:=Lib.hid hi;have HB2:=Lib.hid hb;clear hi hb hk)
 by_cases cv : v = 0
 ·subst cv
  go_wp2_with (fail)
  (refine (heard_calls g l (0 + 1) s1 w _ (by omega) (by omega) HI2.out HB2.out).mono ?_;rintro e w3 ⟨t,i3,s3,rfl,htz,hi,hi0,hi1,hb⟩;have HI3:=Lib.hid hi;have HB3:=Lib.hid hb;clear hi hb)
  obtain ⟨⟨R,jj,qq⟩,hR,hRz2, -, -⟩:=gen_ex l i3 s3 99 (by omega) (by omega) (by omega) (by omega)
  obtain ⟨KT,hGT⟩:=hR.rounds
  have HGT:=Lib.hid hGT
  clear hR hGT
  simp only [] at hRz2
  have z1 : (9223372036854775807 < t.size + Rp.size) = False:=eq_false (by omega)
  have z2 : (9223372036854775807 < t.size + Rp.size + R.size) = False:=eq_false (by omega)
  go_wp2_with (fail)
  (refine (spec_l1repeat.calls KR _ 3850 Rp _ HRP.out).mono ?_;rintro e w4 ⟨rfl,hd⟩;have HI4:=Lib.hid (HI3.out.below hd.below);have HB4:=Lib.hid (HB3.out.trans (hd.below.mono HB3.out.size));clear hd)
  go_wp2_with (fail)
  (refine (spec_l1genText.calls KT g l i3 s3 99 R jj qq w _ HI4.out HB4.out HGT.out).mono ?_;rintro e w5 ⟨rfl,hi,hb,hk⟩;have HB5:=Lib.hid hb;clear hi hb hk)
  go_wp2_with (fail)
  go_ret
  exact ⟨_,rfl,by rw [ByteArray.size_append,ByteArray.size_append];omega,HB5.out⟩
 ·have hv2 : (v == 0) = false:=beq_eq_false_iff_ne.mpr cv
  clear cv
  go_wp2_with (fail)
  (refine (heard_calls g l (0 + 1) s1 w _ (by omega) (by omega) HI2.out HB2.out).mono ?_;rintro e w3 ⟨t,i3,s3,rfl,htz,hi,hi0,hi1,hb⟩;have HB3:=Lib.hid hb;clear hi hb)
  go_wp2_with (fail)
  go_ret
  exact ⟨_,rfl,by omega,HB3.out⟩
structure Sc (w W : World) (g : Nat) (s : SS) (C : List Value) : Prop where
 blk : W.heap[g]? = some (.cells ⟨C⟩ 31 (0,0))
 row : MS W w.heap.size (fun k => k ≠ g) s C
 lo : w.heap.size ≤ g
 bel : Below w.heap.size w W
structure S6 (w W : World) (g4 g6 : Nat) (s : SS) (C C1 : List Value) : Prop where
 b4 : W.heap[g4]? = some (.cells ⟨C⟩ 31 (0,0))
 b6 : W.heap[g6]? = some (.cells ⟨C1⟩ 31 (0,0))
 row : MS W w.heap.size (fun k => k ≠ g4) s C1
 ne : g4 ≠ g6
 lo4 : w.heap.size ≤ g4
 bel : Below w.heap.size w W
section
variable {w W W2 : World} {g g4 g6 : Nat} {s s2 : SS} {C C1 : List Value}
theorem Sc.K (h : Sc w W g s C) : KS W s C:=h.row.toK
theorem Sc.lt (h : Sc w W g s C) : g < W.heap.size:=blk_lt h.blk
theorem Sc.step (h : Sc w W g s C) (hb : Below W.heap.size W W2) : Sc w W2 g s C:=by
 obtain ⟨v,e,hr⟩:=h.row
 exact ⟨blk_below h.blk hb,⟨v,e,Kd.R_below hr hb⟩,h.lo,h.bel.trans (hb.mono h.bel.size)⟩
theorem S6.K (h : S6 w W g4 g6 s C C1) : KS W s C1:=h.row.toK
theorem S6.step (h : S6 w W g4 g6 s C C1) (hb : Below W.heap.size W W2) : S6 w W2 g4 g6 s C C1:=by
 obtain ⟨v,e,hr⟩:=h.row
 exact ⟨blk_below h.b4 hb,blk_below h.b6 hb,⟨v,e,Kd.R_below hr hb⟩,h.ne,h.lo4,h.bel.trans (hb.mono h.bel.size)⟩
theorem S6.back (h : S6 w W g4 g6 s C C1) (hx : W2.heap[g4]? = some (.cells ⟨C1⟩ 31 (0,0))) (hT : Tch W W2 (fun k => k = g4)) : Sc w W2 g4 s C1:=by
 obtain ⟨v,e,hr⟩:=h.row
 exact ⟨hx,⟨v,e,Kd.R_kept hr hT.kept (fun k hk => hk)⟩,h.lo4,hT.below h.bel h.bel.size (fun k hk => by have:=h.lo4;omega)⟩
theorem Sc.new (hB : Below w.heap.size w W) : Sc w (W.alloc (.cells #[.int .i64 1, .int .i64 1, .int .i64 0, .int .i64 0, .int .i64 0, .int .i64 0, .bool false, .int .u32 0, .bool false, .int .i64 0, .slice none 0 0] 31 (0,0))) W.heap.size startS (cellsK startS (.slice none 0 0)) :=
 ⟨blk_new _ _,⟨_,rfl,Kd.R_nil _ _ _ _ _⟩,hB.size,hB.alloc hB.size _⟩
theorem S6.newA {W5 W7 : World} {Z : Obj} (h : Sc w W g4 s C) (hb : Below W.heap.size W W5) (hm : MS W5 W.heap.size (fun _ => True) s2 C1) (hx : W7.heap[W5.heap.size]? = some (.cells ⟨C1⟩ 31 (0,0))) (hT : Tch (W5.alloc Z) W7 (fun k => k = W5.heap.size)) : S6 w W7 g4 W5.heap.size s2 C C1:=by
 obtain ⟨v,e,hr⟩:=hm
 have hl:=h.lt
 have hs:=hb.size
 have h5:=h.step hb
 have hb6 : Below w.heap.size w (W5.alloc Z):=h5.bel.alloc h5.bel.size _
 have h1 : Kd.R (Kd.int .u8) 5 W5 w.heap.size (fun k => k ≠ g4 ∧ k < W5.heap.size) v s2.data:=Kd.R_mono (Kd.R_lower (Kd.R_bound hr) h.bel.size) (fun k hk => ⟨by have:=hk.2.1;omega,hk.2.2.1⟩)
 refine ⟨hT.blk (blk_alloc h5.blk _) (by have:=h5.lt;omega),hx,⟨v,e,Kd.R_mono (Kd.R_kept (Kd.R_alloc h1 _) hT.kept (fun k hk => by have:=hk.2;omega)) (fun k hk => hk.1)⟩,by have:=h5.lt;omega,h.lo,hT.below hb6 hb6.size (fun k hk => by have:=h5.bel.size;omega)⟩
theorem S6.newB {W5 W7 : World} {Z : Obj} (h : Sc w W g4 s C) (hb : Below (W.alloc Z).heap.size (W.alloc Z) W5) (hm : MS W5 (W.alloc Z).heap.size (fun _ => True) s2 C1) (hx : W7.heap[W.heap.size]? = some (.cells ⟨C1⟩ 31 (0,0))) (hT : Tch W5 W7 (fun k => k = W.heap.size)) : S6 w W7 g4 W.heap.size s2 C C1:=by
 obtain ⟨v,e,hr⟩:=hm
 have hl:=h.lt
 have hs : W.heap.size + 1 = (W.alloc Z).heap.size:=(World.size_alloc _ _).symm
 have h5:=(h.step (below_alloc (Below.refl _ _) Z)).step hb
 have h1 : Kd.R (Kd.int .u8) 5 W5 w.heap.size (fun k => k ≠ g4 ∧ k ≠ W.heap.size) v s2.data:=Kd.R_mono (Kd.R_lower (Kd.R_bound hr) (by have:=h.bel.size;omega)) (fun k hk => by have:=hk.2.1;exact ⟨by omega,by omega⟩)
 refine ⟨hT.blk h5.blk (by omega),hx,⟨v,e,Kd.R_mono (Kd.R_kept h1 hT.kept (fun k hk => hk.2)) (fun k hk => hk.1)⟩,by omega,h.lo,hT.below h5.bel h5.bel.size (fun k hk => by have:=h.bel.size;omega)⟩
end
structure Cl (W : World) (g6 : Nat) (s : SS) (A : Option Addr) (c : Nat) : Prop where
 c0 : W.cell? ⟨g6,0,none⟩ = some (.int .i64 s.field)
 c2 : W.cell? ⟨g6,2,none⟩ = some (.int .i64 s.run)
 c6 : W.cell? ⟨g6,6,none⟩ = some (.bool s.ext)
 c7 : W.cell? ⟨g6,7,none⟩ = some (.int .u32 s.id)
 c8 : W.cell? ⟨g6,8,none⟩ = some (.bool s.rtr)
 c9 : W.cell? ⟨g6,9,none⟩ = some (.int .i64 s.dlc)
 c10 : W.cell? ⟨g6,10,none⟩ = some (.slice A s.data.length c)
 row : Kd.C (Kd.int .u8) W A s.data.length s.data
 le : s.data.length ≤ c
theorem S6.cl {w W : World} {g4 g6 : Nat} {s : SS} {C C1 : List Value} (h : S6 w W g4 g6 s C C1) : ∃ A c,Cl W g6 s A c:=by
 obtain ⟨A,c,e,hr,hc⟩:=h.K
 have hb:=h.b6
 rw [e] at hb
 exact ⟨A,c,blk_cell hb 0,blk_cell hb 2,blk_cell hb 6,blk_cell hb 7,blk_cell hb 8,blk_cell hb 9,blk_cell hb 10,hr,hc⟩
theorem zero_K (W : World) : KS W zeroS (cellsK zeroS (.slice none 0 0)):=MS.toK (base:=W.heap.size) (ok:=fun _ => True) ⟨_,rfl,Kd.R_nil _ _ _ _ _⟩
theorem verdict_code (a b : Int) (c d : Bool) (W : World) : Sem.run Tryd.prog (Instr.field 40 (.agg #[.int .i64 a, .int .i64 b, .bool c, .bool d]) 0) W = .ok (.int .i64 a) W:=by
 unfold Instr.field
 rw [Sem.run_bind,run_underlying Tryd.underlying40 W]
 rfl
theorem implScanS_v (s : SS) (b : Int) (hI : SInv s) (hb : b = 0 ∨ b = 1) (W : World) (hG : LaidRows W) (C : List Value) (hk : KS W s C) : Calls Tryd.prog 8 #[.agg ⟨C⟩, .int .i64 b] W fun e w' => ∃ C1,e = .returned (.tuple #[.agg ⟨C1⟩, .int .i64 (scanV s b).2]) ∧ MS w' W.heap.size (fun _ => True) (scanV s b).1 C1 ∧ Below W.heap.size W w':=by
 obtain ⟨A,c,rfl,hr,hc⟩:=hk
 refine (scan_sound W s A c b hr hc hG hI.ig.1 hI.by_ hI.sound hb).mono ?_
 rintro e w' ⟨v,rfl,h1,h2⟩
 exact ⟨cellsK (scanV s b).1 v,rfl,⟨v,rfl,h1⟩,h2⟩
theorem wScan_v {W : World} {C : List Value} (hk : KS W zeroS C) : Calls Tryd.prog 15 #[.agg ⟨C⟩, .agg #[.int .i64 0, .int .i64 0, .int .i64 0, .int .i64 0, .int .i64 0, .int .i64 0, .bool false, .int .u32 0, .bool false, .int .i64 0, .slice none 0 0]] W fun e w' => e = .returned (.bool true) ∧ Below W.heap.size W w':=by
 obtain ⟨A,c,rfl,hr,hc⟩:=hk
 obtain ⟨A',c',e',hr',hc'⟩:=zero_K W
 injection e' with _ e'
 exact wScan_z A c none 0 W hr (by simp at e';obtain ⟨rfl, -⟩:=e';exact hr')
end Go.Proofs.YtdoclpgciadjaaaDoor.P
namespace Go.Proofs.YtdoclpgciadjaaaDoor.Pure
open Go Go.RowKit Go.Proofs.YtdoclpgciadjaaaDoor.P Go.Proofs.YtdoclpgciadjaaaDoorW.PrintWords Go.Proofs.YtdoclpgciadjaaaDoorW.PrintLast
set_option linter.unusedVariables false
set_option maxRecDepth 100000 in
set_option maxHeartbeats 16000000 in
theorem FnScanner_walk (A : Option Addr) (c : Nat) (l : List Int) (w : World) (hr : Kd.C (Kd.int .u8) w A l.length l) (hc : l.length ≤ c) (hG : LaidRows w) :
  Calls Tryd.prog 4 #[.slice A l.length c] w fun e w' => e = .returned (.bool true) ∧ Below w.heap.size w w':=by
 have HR:=Lib.hid hr
 have HC:=Lib.hid hc
 have HG:=Lib.hid hG
 clear hr hc hG
 have hu2:=Lib.hid Tryd.underlying31
 by_cases hbig : (1048576 : Int) < (l.length : Int)
 ·have b1 : decide ((1048576 : Int) < (l.length : Int)) = true:=decide_eq_true hbig
  go_enter Tryd.func4,Tryd.ntmps4
  go_wp2_with (fail)
  go_ret
  exact ⟨rfl,Below.refl _ _⟩
 ·have b1 : decide ((1048576 : Int) < (l.length : Int)) = false:=decide_eq_false hbig
  clear hbig
  go_enter Tryd.func4,Tryd.ntmps4
  go_wp2_with (fail)
  (refine (drawJudge_calls A c l _ HR.out HC.out).mono ?_;rintro e w1 ⟨t,rfl,htz,hb⟩;have HB1:=Lib.hid hb;clear hb)
  go_wp2_with (fail)
  have HS0:=Lib.hid (Sc.new HB1.out)
  go_loopw [5] (fun v5 wr => ∃ (i : Nat) (a : SS) (C : List Value) (st : WS),i ≤ t.size ∧ v5 = .int .i64 i ∧ Aside0 (Sc w wr w1.heap.size a C) ∧ Aside0 (Ld t i a st)) (fun v5 _ => t.size - (intOf v5).toNat)
  case atStart => exact ⟨0,startS,_,startW,Nat.zero_le _,rfl,⟨HS0.out⟩,⟨Ld.start t⟩⟩
  case round =>
   obtain ⟨i,a,C,st,hle,rfl,HS,HLD⟩:=hrel
   generalize w1.heap.size = g4 at HS ⊢
   clear HS0 HB1
   by_cases hlt : i < t.size
   ·have b2 : decide ((i : Int) < (t.size : Int)) = true:=decide_eq_true (by omega)
    have p5 : (0 ≤ (i : Int)) = True:=eq_true (by omega)
    have q5 : ((i : Int) < (t.size : Int)) = True:=eq_true (by omega)
    have qn : (i < t.size) = True:=eq_true hlt
    have HLT:=Lib.hid hlt
    clear hlt
    have hX : ∀ h : i < t.size,(((t[i]'h).toNat : Nat) : Int) = bt t (i : Int):=fun h => by have:=bt_at t (i : Int) (by rw [Int.toNat_natCast];exact h);simpa using this
    have HX:=Lib.hid hX
    clear hX
    by_cases hbit : bt t (i : Int) = 48 ∨ bt t (i : Int) = 49
    ·obtain ⟨B,hB,hBv⟩ : ∃ B : Int,(B = 0 ∨ B = 1) ∧ bt t (i : Int) = B + 48:=by
      rcases hbit with h | h
      ·exact ⟨0, .inl rfl,by omega⟩
      ·exact ⟨1, .inr rfl,by omega⟩
     clear hbit
     have HBV:=Lib.hid hBv
     have HB01:=Lib.hid hB
     clear hBv
     rcases hB with hB | hB
     case' inl =>
      have hx : ∀ h : i < t.size,(((t[i]'h).toNat : Nat) : Int) = 48:=fun h => by rw [HX.out h,HBV.out,hB];rfl
      clear hB
      go_upto_region 10 with (fail)
      clear hx
     case' inr =>
      have hx : ∀ h : i < t.size,(((t[i]'h).toNat : Nat) : Int) = 49:=fun h => by rw [HX.out h,HBV.out,hB];rfl
      clear hB
      go_upto_region 10 with (fail)
      clear hx
     all_goals
      have hx : ∀ h : i < t.size,(((t[i]'h).toNat : Nat) : Int) = B + 48:=fun h => by rw [HX.out h,HBV.out]
      have e1 : IntKind.u8.wrap (B + 48 - 48) = B:=by rcases HB01.out with h | h <;> rw [h] <;> rfl
      have e3 : IntKind.u8.wrap B = B:=by rcases HB01.out with h | h <;> rw [h] <;> rfl
      have e2 : IntKind.i64.wrap B = B:=by rcases HB01.out with h | h <;> rw [h] <;> rfl
      have HSd:=Lib.hid (HS.out.step (below_drew (Below.refl _ _)))
      have HI : Hid ((Tryd.prog.info? 31).map (·.size) = some C.length):=Lib.hid HS.out.K.info
      have HLC:=Lib.hid HS.out.K.len
      have HRG : ∀ w' : World,w'.heap[g4]? = some (.cells ⟨C⟩ 31 (0,0)) → w'.rangeAt g4 0 C:=fun w' h => range_all h
      have HH:=Lib.hid HRG
      clear HRG
      obtain ⟨x,y,z,hj,hsj,hxy⟩:=(HLD.out.round HLT.out HB01.out HBV.out).jud
      have hon:=(HLD.out.round HLT.out HB01.out HBV.out).on
      have hoff:=(HLD.out.round HLT.out HB01.out HBV.out).off
      have hdec:=(HLD.out.round HLT.out HB01.out HBV.out).dec
      have him:=implScanS_v a B HLD.out.inv HB01.out
      obtain ⟨KJ,hsj⟩:=hsj.rounds
      generalize scanV a B = V at hj hsj hxy hon hoff hdec him
      generalize hXX : t.extract 0 (i + 1) = X at hj hsj hdec
      have HJ:=Lib.hid hj
      have HSJ:=Lib.hid hsj
      have HXY:=Lib.hid hxy
      have HON:=Lib.hid hon
      have HOFF:=Lib.hid hoff
      have HDEC:=Lib.hid hdec
      have HIM:=Lib.hid him
      clear hj hsj hxy hon hoff hdec him
      refine wp_region_held_drew (S:=fun w' : World => w'.rangeAt g4 0 C) (by kernel_rfl) (HH.out _ HSd.out.blk) (fun hH0 => ?_)
      refine' wpAnyH_take (i:=0) (oi:=_) (v:=_) rfl (by kernel_rfl) (by kernel_rfl) (by kernel_rfl) (fun _ _ _ h => h) (yieldsIf_load_mid (by rfl) _ _ rfl g4 0 rfl C _ (fun w h => h) hu2.out rfl HI.out) (by assumption) _
      refine wpAnyH_take (i:=1) (v := .string t) rfl (by kernel_rfl) (by kernel_rfl) (by kernel_rfl) (fun _ _ _ h => h) (Or.inl ⟨by rfl, ?_⟩) (by assumption) ?_
      ·(intro wq hSw;(try dsimp only at hSw);go_simp;try (with_reducible rfl))
      refine wpAnyH_take (i:=2) (v := .int .i64 (i : Int)) rfl (by kernel_rfl) (by kernel_rfl) (by kernel_rfl) (fun _ _ _ h => h) (Or.inl ⟨by rfl, ?_⟩) (by assumption) ?_
      ·(intro wq hSw;(try dsimp only at hSw);go_simp;try (with_reducible rfl))
      refine wpAnyH_take (i:=3) (v := .int .u8 (B + 48)) rfl (by kernel_rfl) (by kernel_rfl) (by kernel_rfl) (fun _ _ _ h => h) (Or.inl ⟨by rfl, ?_⟩) (by assumption) ?_
      ·(intro wq hSw;(try dsimp only at hSw);go_simp;try (with_reducible rfl))
      refine wpAnyH_take (i:=4) (v := .int .u8 B) rfl (by kernel_rfl) (by kernel_rfl) (by kernel_rfl) (fun _ _ _ h => h) (Or.inl ⟨by rfl, ?_⟩) (by assumption) ?_
      ·(intro wq hSw;(try dsimp only at hSw);go_simp;try (with_reducible rfl))
      refine wpAnyH_take (i:=5) (v := .int .i64 B) rfl (by kernel_rfl) (by kernel_rfl) (by kernel_rfl) (fun _ _ _ h => h) (Or.inl ⟨by rfl, ?_⟩) (by assumption) ?_
      ·(intro wq hSw;(try dsimp only at hSw);go_simp;try (with_reducible rfl))
      refine wpAnyH_ready (rs := [6,10]) (by kernel_rfl) (by simp) ?_
      refine AllReadyH.cons rfl (fun K hK => ?_) (AllReadyH.cons rfl (fun K hK => ?_) AllReadyH.nil)
      focus
       go_simp
       go_wp2_with (first | (go_at_call 8;refine (HIM.out _ (HG.out.next HSd.out.bel) _ HSd.out.K).mono ?_;rintro e w5 ⟨C1,rfl,hm,hb⟩;have HS5:=Lib.hid (HSd.out.step hb);have HM5:=Lib.hid hm;have HB5:=Lib.hid hb;have HK1:=Lib.hid hm.toK;clear hm hb))
       refine hK.out _ _ (HH.out _ HS5.out.blk) (fun hH1 => ?_)
       clear hK K
       refine wpAnyH_take (i:=7) (v := .tuple #[.agg ⟨C1⟩, .int .i64 V.2]) rfl (by kernel_rfl) (by kernel_rfl) (by kernel_rfl) (fun _ _ _ h => h) (Or.inl ⟨by rfl, ?_⟩) (by assumption) ?_
       ·(intro wq hSw;(try dsimp only at hSw);go_simp;try (with_reducible rfl))
       refine wpAnyH_take (i:=8) (v := .agg ⟨C1⟩) rfl (by kernel_rfl) (by kernel_rfl) (by kernel_rfl) (fun _ _ _ h => h) (Or.inl ⟨by rfl, ?_⟩) (by assumption) ?_
       ·(intro wq hSw;(try dsimp only at hSw);go_simp;try (with_reducible rfl))
       refine wpAnyH_take (i:=9) (v := .int .i64 V.2) rfl (by kernel_rfl) (by kernel_rfl) (by kernel_rfl) (fun _ _ _ h => h) (Or.inl ⟨by rfl, ?_⟩) (by assumption) ?_
       ·(intro wq hSw;(try dsimp only at hSw);go_simp;try (with_reducible rfl))
       refine wpAnyH_ready (rs := [10]) (by kernel_rfl) (by simp) ?_
       refine AllReadyH.cons rfl (fun K hK => ?_) AllReadyH.nil
       go_simp
       refine hK.out _ _ (HH.out _ (blk_alloc HS5.out.blk _)) (fun hH2 => ?_)
       clear hK K
       refine wpAnyH_ready (rs := [11]) (by kernel_rfl) (by simp) ?_
       refine AllReadyH.cons rfl (fun K hK => ?_) AllReadyH.nil
       rw [if_pos (by rfl)]
       refine wp_store_all rfl (g:=w5.heap.size) (cs := #[.int .i64 0, .int .i64 0, .int .i64 0, .int .i64 0, .int .i64 0, .int .i64 0, .bool false, .int .u32 0, .bool false, .int .i64 0, .slice none 0 0]) (C:=C1) (T:=31) rfl rfl (blk_new _ _) HK1.out.info HK1.out.one HK1.out.len.symm ?_
       intro w7 hx7 hT7
       have H6 : Hid (S6 w w7 g4 w5.heap.size V.1 C C1):=Lib.hid (S6.newA HSd.out HB5.out HM5.out hx7 hT7)
       clear hx7 hT7
       refine hK.out _ _ (HH.out _ H6.out.b4) (fun hH3 => ?_)
       clear hK K
       refine wpAnyH_ready (rs := [12]) (by kernel_rfl) (by simp) ?_
       refine AllReadyH.cons rfl (fun K hK => ?_) AllReadyH.nil
       go_simp
       refine hK.out _ _ (HH.out _ H6.out.b4) (fun hH4 => ?_)
       clear hK K
       refine wpAnyH_done (by kernel_rfl) ?_ _
       clear hH0 hH1 hH2 hH3 hH4 HS5 HM5 HB5
       generalize w5.heap.size = g6 at H6 ⊢
      rotate_left
      focus
       go_simp
       refine hK.out _ _ (HH.out _ (blk_alloc HSd.out.blk _)) (fun hH1 => ?_)
       clear hK K
       have HSb:=Lib.hid (HSd.out.step (below_alloc (Below.refl _ _) (.cells #[.int .i64 0, .int .i64 0, .int .i64 0, .int .i64 0, .int .i64 0, .int .i64 0, .bool false, .int .u32 0, .bool false, .int .i64 0, .slice none 0 0] 31)))
       refine wpAnyH_ready (rs := [6]) (by kernel_rfl) (by simp) ?_
       refine AllReadyH.cons rfl (fun K hK => ?_) AllReadyH.nil
       go_simp
       go_wp2_with (first | (go_at_call 8;refine (HIM.out _ (HG.out.next HSb.out.bel) _ HSb.out.K).mono ?_;rintro e w5 ⟨C1,rfl,hm,hb⟩;have HS5:=Lib.hid (HSb.out.step hb);have HM5:=Lib.hid hm;have HB5:=Lib.hid hb;have HK1:=Lib.hid hm.toK;clear hm hb))
       refine hK.out _ _ (HH.out _ HS5.out.blk) (fun hH2 => ?_)
       clear hK K
       refine wpAnyH_take (i:=7) (v := .tuple #[.agg ⟨C1⟩, .int .i64 V.2]) rfl (by kernel_rfl) (by kernel_rfl) (by kernel_rfl) (fun _ _ _ h => h) (Or.inl ⟨by rfl, ?_⟩) (by assumption) ?_
       ·(intro wq hSw;(try dsimp only at hSw);go_simp;try (with_reducible rfl))
       refine wpAnyH_take (i:=8) (v := .agg ⟨C1⟩) rfl (by kernel_rfl) (by kernel_rfl) (by kernel_rfl) (fun _ _ _ h => h) (Or.inl ⟨by rfl, ?_⟩) (by assumption) ?_
       ·(intro wq hSw;(try dsimp only at hSw);go_simp;try (with_reducible rfl))
       refine wpAnyH_take (i:=9) (v := .int .i64 V.2) rfl (by kernel_rfl) (by kernel_rfl) (by kernel_rfl) (fun _ _ _ h => h) (Or.inl ⟨by rfl, ?_⟩) (by assumption) ?_
       ·(intro wq hSw;(try dsimp only at hSw);go_simp;try (with_reducible rfl))
       refine wpAnyH_ready (rs := [11]) (by kernel_rfl) (by simp) ?_
       refine AllReadyH.cons rfl (fun K hK => ?_) AllReadyH.nil
       rw [if_pos (by rfl)]
       refine wp_store_all rfl (g:=wr.heap.size) (cs := #[.int .i64 0, .int .i64 0, .int .i64 0, .int .i64 0, .int .i64 0, .int .i64 0, .bool false, .int .u32 0, .bool false, .int .i64 0, .slice none 0 0]) (C:=C1) (T:=31) rfl rfl (blk_below (blk_new wr.drew (.cells #[.int .i64 0, .int .i64 0, .int .i64 0, .int .i64 0, .int .i64 0, .int .i64 0, .bool false, .int .u32 0, .bool false, .int .i64 0, .slice none 0 0] 31)) HB5.out) HK1.out.info HK1.out.one HK1.out.len.symm ?_
       intro w7 hx7 hT7
       have H6 : Hid (S6 w w7 g4 wr.heap.size V.1 C C1):=Lib.hid (S6.newB (W:=wr.drew) HSd.out HB5.out HM5.out hx7 hT7)
       clear hx7 hT7
       refine hK.out _ _ (HH.out _ H6.out.b4) (fun hH3 => ?_)
       clear hK K
       refine wpAnyH_ready (rs := [12]) (by kernel_rfl) (by simp) ?_
       refine AllReadyH.cons rfl (fun K hK => ?_) AllReadyH.nil
       go_simp
       refine hK.out _ _ (HH.out _ H6.out.b4) (fun hH4 => ?_)
       clear hK K
       refine wpAnyH_done (by kernel_rfl) ?_ _
       clear hH0 hH1 hH2 hH3 hH4 HS5 HM5 HB5 HSb
       generalize wr.heap.size = g6 at H6 ⊢
      all_goals
       clear HH HI HSd HIM hx e1 e2 e3
       have HI1 : Hid ((Tryd.prog.info? 31).map (·.size) = some C1.length):=Lib.hid HK1.out.info
       obtain ⟨N,hN⟩ : ∃ N : Int,N = (i : Int) + 1:=⟨_,rfl⟩
       have n0 : (i : Int) + 1 ≤ (t.size : Int):=by have:=HLT.out;omega
       have n1 : wrap64 ((i : Int) + 1) = N:=by rw [hN];unfold wrap64;omega
       have n2 : IntKind.i64.wrap ((i : Int) + 1) = N:=by rw [hN,IntKind.wrap_i64];omega
       have n3 : (0 ≤ N) = True:=eq_true (by omega)
       have n4 : (N ≤ (t.size : Int)) = True:=eq_true (by omega)
       have n5 : N.toNat = i + 1:=by omega
       have n6 : (i + 1 ≤ t.size) = True:=eq_true (by omega)
       have HN:=Lib.hid hN
       clear hN n0
       have hbn : (V.2 != V.2) = false:=bne_self_eq_false _
       go_upto_region 12 with (first | (go_at_call 13;refine (impl_Judge.calls X V.2 x y z _ HJ.out).mono ?_;rintro e w8 ⟨rfl,hb⟩;have H8:=Lib.hid (H6.out.step hb);clear hb))
       have hfd:=fun (W : World) => verdict_code V.2 x y z W
       go_upto_region 14 with (first | (go_at_call 14;refine (spec_Judge.calls KJ X V.2 x y z _ HSJ.out).mono ?_;rintro e w9 ⟨rfl,hb⟩;have H9:=Lib.hid ((H8.out.step (below_alloc (Below.refl _ _) _)).step hb);have HQ9:=Lib.hid (blk_below (blk_new w8 _) hb);clear hb))
       clear hfd
       generalize w8.heap.size = g8 at HQ9 ⊢
       clear H8 H6
       obtain ⟨A1,c1,hcl⟩:=H9.out.cl
       have HCL:=Lib.hid hcl
       have HK9:=Lib.hid H9.out.K
       by_cases c0 : V.2 = 0 ∨ V.2 = 1
       ·obtain ⟨rfl,rfl⟩:=HXY.out c0
        have HLD2:=Lib.hid (HON.out c0)
        have hz0:=hcl.c0
        have hz2:=hcl.c2
        clear hcl
        have hq1:=blk_cell HQ9.out 1
        have hq2:=blk_cell HQ9.out 2
        have hbf : (V.1.field != V.1.field) = false:=bne_self_eq_false _
        have hbr : ((V.1.run == 5) != (V.1.run == 5)) = false:=bne_self_eq_false _
        by_cases c1 : V.2 = 1
        ·have d1 : (V.2 != 0) = true:=bne_iff_ne.mpr (by omega)
         have d2 : (V.2 != 1) = false:=bne_eq_false_iff_eq.mpr c1
         have d3 : (V.2 == 1) = true:=beq_iff_eq.mpr c1
         have d4 : ((1 : Int) != V.2) = false:=bne_eq_false_iff_eq.mpr c1.symm
         have HDX:=Lib.hid (HDEC.out c1)
         clear c0 c1
         go_upto_region 20 with (first | (go_at_call 16;refine (decode_v HDX.out (by have:=HLD2.out.inv.xl;omega) _).mono ?_;rintro e w10 ⟨v4,rfl,hrw,hb⟩;obtain ⟨A9,c9,rfl⟩:=Kd.R_slice hrw;have H10:=Lib.hid (H9.out.step hb);have HR10:=Lib.hid (Kd.R_reads' hrw);clear hrw hb))
         clear hz0 hz2 hq1 hq2
         have H11:=Lib.hid (H10.out.step (below_alloc (Below.refl _ _) (.cells #[.bool V.1.ext, .int .u32 V.1.id, .bool V.1.rtr, .int .i64 V.1.dlc, .slice A9 V.1.data.length c9] 29 (0,0))))
         obtain ⟨A2,c2,hcl2⟩:=H11.out.cl
         have HCL2:=Lib.hid hcl2
         have hz6:=hcl2.c6
         have hz7:=hcl2.c7
         have hz8:=hcl2.c8
         have hz9:=hcl2.c9
         have hz10:=hcl2.c10
         clear hcl2
         have hbx:=blk_new w10 (.cells #[.bool V.1.ext, .int .u32 V.1.id, .bool V.1.rtr, .int .i64 V.1.dlc, .slice A9 V.1.data.length c9] 29 (0,0))
         have hy0:=blk_cell hbx 0
         have hy1:=blk_cell hbx 1
         have hy2:=blk_cell hbx 2
         have hy3:=blk_cell hbx 3
         have hy4:=blk_cell hbx 4
         clear hbx
         go_upto_region 22 with (first | (go_at_call 17;refine (wFrame_v V.1.ext V.1.id V.1.rtr V.1.dlc V.1.data (by have:=HLD2.out.inv.xl;omega) A9 c9 A2 c2 _ (Kd.C_alloc HR10.out.2.2 _) HCL2.out.row).mono ?_;rintro e w12 ⟨rfl,hb⟩;have H12:=Lib.hid (H11.out.step hb);clear hb))
         clear hz6 hz7 hz8 hz9 hz10 hy0 hy1 hy2 hy3 hy4
         go_wp2_with (first | ((with_reducible refine gate_dst (N:=104) rfl ?_);refine load_all rfl rfl (g:=g6) rfl H12.out.b6 hu2.out HI1.out ?_) | ((with_reducible refine gate_store (t:=31) (p:=4) rfl ?_);refine store_all rfl rfl rfl (g:=g4) (C:=C1) (cs:=⟨C⟩) (T:=31) rfl rfl H12.out.b4 HI1.out HK1.out.one (HLC.out.trans HK1.out.len.symm) ?_;intro wz hx hT;have HSZ:=Lib.hid (H12.out.back hx hT);clear hx hT))
         go_roundw
         case rel => exact ⟨i + 1,V.1,C1,hearW st (B + 48),HLT.out,by rw [HN.out];rfl,⟨HSZ.out⟩,⟨HLD2.out⟩⟩
         case measure => have:=HLT.out;have:=HN.out;simp [intOf];omega
        ·have d1 : (V.2 != 0) = false:=bne_eq_false_iff_eq.mpr (by omega)
         have d3 : (V.2 == 1) = false:=beq_eq_false_iff_ne.mpr c1
         clear c0 c1
         go_wp2_with (first | ((with_reducible refine gate_dst (N:=104) rfl ?_);refine load_all rfl rfl (g:=g6) rfl H9.out.b6 hu2.out HI1.out ?_) | ((with_reducible refine gate_store (t:=31) (p:=4) rfl ?_);refine store_all rfl rfl rfl (g:=g4) (C:=C1) (cs:=⟨C⟩) (T:=31) rfl rfl H9.out.b4 HI1.out HK1.out.one (HLC.out.trans HK1.out.len.symm) ?_;intro wz hx hT;have HSZ:=Lib.hid (H9.out.back hx hT);clear hx hT))
         go_roundw
         case rel => exact ⟨i + 1,V.1,C1,hearW st (B + 48),HLT.out,by rw [HN.out];rfl,⟨HSZ.out⟩,⟨HLD2.out⟩⟩
         case measure => have:=HLT.out;have:=HN.out;simp [intOf];omega
       ·have hz:=HOFF.out c0
        have d1 : (V.2 != 0) = true:=bne_iff_ne.mpr (by omega)
        have d2 : (V.2 != 1) = true:=bne_iff_ne.mpr (by omega)
        have HZK : Hid (KS w9 zeroS C1):=Lib.hid (hz ▸ HK9.out)
        clear hz c0 hcl
        go_wp2_with (first | ((with_reducible refine gate_dst (N:=68) rfl ?_);refine load_all rfl rfl (g:=g6) rfl H9.out.b6 hu2.out HI1.out ?_) | (go_at_call 15;refine (wScan_v HZK.out).mono ?_;rintro e w10 ⟨rfl,hb⟩;have H10:=Lib.hid (H9.out.step hb);clear hb))
        go_ret
        exact ⟨rfl,H10.out.bel⟩
    ·have f1 : ¬ bt t (i : Int) = 48:=fun h => hbit (.inl h)
     have f2 : ¬ bt t (i : Int) = 49:=fun h => hbit (.inr h)
     have g1 : (bt t (i : Int) != 48) = true:=bne_iff_ne.mpr f1
     have g2 : (bt t (i : Int) != 49) = true:=bne_iff_ne.mpr f2
     have hx:=HX.out
     clear hbit f1 f2
     go_wp2_with (fail)
     go_ret
     exact ⟨rfl,HS.out.bel⟩
   ·have b2 : decide ((i : Int) < (t.size : Int)) = false:=decide_eq_false (by omega)
    have qn : (i < t.size) = False:=eq_false hlt
    clear hlt
    go_wp2_with (fail)
    go_ret
    exact ⟨rfl,HS.out.bel⟩
end Go.Proofs.YtdoclpgciadjaaaDoor.Pure
namespace Go.Proofs.YtdoclpgciadjaaaDoor.P
open Go Go.RowKit Go.Deep Go.Proofs.YtdoclpgciadjaaaDoorW.PrintWords
set_option linter.unusedVariables false
def Reads (P : Program) (t : TypeId) {α : Type} (d : Kd α) (B : α → Prop) : Prop :=
 ∀ (H : Type) (enc : TypeId × Value → H) (w : World) (base : Nat) (spare : Nat → Bool) (held : Bool) (fuel : Nat) (cs : List Value) (x : DataW H × List MemPlace),DataW.trod enc P w base spare held fuel t cs = some x → ∃ v : α,d.K w v cs ∧ B v
theorem reads_int {P : Program} {t : TypeId} {k : IntKind} (h : P.underlying t = some (.int k)) : Reads P t (Kd.int k) (fun n => (Lit.int k n).wf = true):=by
 intro H enc w base spare held fuel cs x hx
 obtain ⟨n,hc,_,hw⟩:=DataW.trod_int h hx
 exact ⟨n,hc,hw⟩
theorem reads_slice {P : Program} {t e : TypeId} {α : Type} {d : Kd α} {B : α → Prop} (h : P.underlying t = some (.slice e)) (hc : P.cellsOf e = d.sz) (hd : Reads P e d B) : Reads P t (Kd.slice e d) (fun xs => xs.length ≤ maxLen ∧ ∀ x ∈ xs,B x):=by
 intro H enc w base spare held fuel cs x hx
 rcases open_slice h hx with ⟨rfl,_⟩ | ⟨a,len,cap,m,n,D,Pl,rfl,_,hl,hm,hmm,_,hi⟩
 ·exact ⟨[],⟨none,0,rfl,Nat.le_refl _,rfl,by simp,fun h => absurd h (by simp)⟩,by simp [maxLen],fun x hx => by cases hx⟩
 ·have hlm : len ≤ m:=by rw [hmm];split <;> omega
  have key : ∀ i : Fin len, ∃ v : α,B v ∧ ∃ c,c.length = d.sz ∧ d.K w v c ∧ ∀ j u,c[j]? = some u → w.cell? (a.add (i.val * d.sz + j)) = some u:=by
   intro i
   obtain ⟨cs',h1,h2⟩:=hi i.val (by omega)
   obtain ⟨v,hk,hb⟩:=hd H enc w base spare held n cs' _ h2
   obtain ⟨_,hcl,hat⟩:=World.cells?_some h1
   refine ⟨v,hb,cs',d.K_len hk,hk,fun j u hj => ?_⟩
   have hjl : j < cs'.length:=(List.getElem?_eq_some_iff.1 hj).1
   have:=hat j (by omega)
   rw [← hc, ← Go.Deep.add_add,this,hj]
  have hv : ∃ f : Fin len → α, ∀ i,B (f i) ∧ ∃ c,c.length = d.sz ∧ d.K w (f i) c ∧ ∀ j u,c[j]? = some u → w.cell? (a.add (i.val * d.sz + j)) = some u:=⟨fun i => (key i).choose,fun i => (key i).choose_spec⟩
  obtain ⟨f,hf⟩:=hv
  have hml : len ≤ 9223372036854775807:=by simp only [maxLen] at hm;omega
  refine ⟨List.ofFn f,⟨some a,cap,by rw [List.length_ofFn],by rw [List.length_ofFn];exact hl,rfl,by rw [List.length_ofFn];exact hml,fun _ => ⟨a,rfl,fun j p hj => ?_⟩⟩,by rw [List.length_ofFn];omega,fun x hx => ?_⟩
  ·obtain ⟨hjl,rfl⟩:=List.getElem?_eq_some_iff.1 hj
   rw [List.length_ofFn] at hjl
   rw [List.getElem_ofFn]
   obtain ⟨_,c,h1,h2,h3⟩:=hf ⟨j,hjl⟩
   exact ⟨c,h1,h2,h3⟩
  ·obtain ⟨i,rfl⟩:=(List.mem_ofFn).1 hx
   exact (hf i).1
end Go.Proofs.YtdoclpgciadjaaaDoor.P
