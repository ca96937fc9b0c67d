/- Texts of the proof of FnExactDrain, joined. -/
import Derived.Test.YtcaefabbcjlkdaaSFnExactDrain31
import Derived.Deep.QuietTactic
import Derived.BigQuiet
import Derived.Test.YtcaefabbcjlkdaaSFnExactDrain29
import Derived.Test.YtcaefabbcjlkdaaSFnExactDrain30
import Derived.Test.YtcaefabbcjlkdaaSFnExactDrain27
import Derived.Test.YtcaefabbcjlkdaaSFnExactDrain28
import Derived.Deep.MidRow
import Derived.Test.YtcaefabbcjlkdaaSFnExactDrain22
import Derived.Deep.Slices
import Derived.Deep.Fields
import Derived.ChangeSame
import Derived.WideShapes
import Derived.Deep.RegionHeld
namespace Go.Proofs.Ytcaefabbcjlkdaa.P
open Go Go.RowKit Go.Proofs.YtcaefabbcjlkdaaW.PrintWords Go.Proofs.YtcaefabbcjlkdaaW.PrintLast Go.Proofs.YtcaefabbcjlkdaaW.PrintMore
set_option linter.unusedVariables false
set_option linter.unusedSimpArgs false
theorem specZero_at (x : S45) (A : Option Addr) (c : Nat) (w : World) (z : Bool) (hz : zeroB x = z) (hr : (Kd.int .u8).C w A x.f4.length x.f4) (hc : x.f4.length ≤ c) :
  Calls Try.prog 127 #[.agg #[.bool x.f0, .int .u32 x.f1, .bool x.f2, .int .i64 x.f3, .slice A x.f4.length c]] w fun e w' => e = .returned (.bool z) ∧ Below w.heap.size w w':=by
 refine spec_l3zeroFrame.calls x.f0 x.f1 x.f2 x.f3 A c x.f4 z w hr hc ?_
 rw [← hz]
 unfold spec_l3zeroFrame.f zeroB
 have h0 : ((x.f4.length : Int) == 0) = (x.f4.length == 0):=by
  cases x.f4 with
  | nil => rfl
  | cons a l => rfl
 by_cases q0 : x.f0 = true
 ·rw [if_pos q0,q0];rfl
 ·rw [if_neg q0,show x.f0 = false by cases h : x.f0;rfl;exact absurd h q0]
  by_cases q1 : x.f1 = 0
  ·rw [if_pos q1,q1]
   by_cases q2 : x.f2 = true
   ·rw [if_pos q2,q2];rfl
   ·rw [if_neg q2,show x.f2 = false by cases h : x.f2;rfl;exact absurd h q2]
    by_cases q3 : x.f3 = 0
    ·rw [if_pos q3,q3,h0];rfl
    ·rw [if_neg q3,show (x.f3 == 0) = false from beq_eq_false_iff_ne.2 q3];rfl
  ·rw [if_neg q1,show (x.f1 == 0) = false from beq_eq_false_iff_ne.2 q1];rfl
theorem specValid_at (x : S45) (A : Option Addr) (c : Nat) (w : World) (z : Bool) (hz : valF x = z) (hr : (Kd.int .u8).C w A x.f4.length x.f4) (hc : x.f4.length ≤ c) :
  Calls Try.prog 75 #[.agg #[.bool x.f0, .int .u32 x.f1, .bool x.f2, .int .i64 x.f3, .slice A x.f4.length c]] w fun e w' => e = .returned (.bool z) ∧ Below w.heap.size w w':=by
 rw [← hz]
 obtain ⟨k,hk⟩:=(specValid_ev x.f0 x.f1 x.f2 x.f3 x.f4).rounds
 exact spec_ValidFrame.calls k x.f0 x.f1 x.f2 x.f3 A c x.f4 _ w hr hc hk
theorem below_drewN' {B : Nat} {a w : World} (h : Below B a w) (n : Nat) : Below B a (w.drewN n):=⟨h.os,h.tape,h.output,h.size,h.block⟩
theorem Uniq.free {g : S87 → Int} {bs : List S87} {n : Nat} (H : Uniq g bs n) (hn : ¬ Live bs n) : Uniq g bs (n + 1):=fun i j h1 h2 h3 h4 => by
 have : i ≠ n:=by rintro rfl;exact hn h3
 exact H i j h1 (by omega) h3 h4
theorem Uniq.more {g : S87 → Int} {bs : List S87} {n : Nat} (H : Uniq g bs n) (hn : ∀ t,t < n → Live bs t → g (bxAt bs n) ≠ g (bxAt bs t)) : Uniq g bs (n + 1):=fun i j h1 h2 h3 h4 => by
 by_cases e : i = n
 ·subst e;exact hn j h1 h4
 ·exact H i j h1 (by omega) h3 h4
set_option maxRecDepth 100000 in
set_option maxHeartbeats 8000000 in
theorem specOkBoxes_v (h : HV) (o : Bool) (ho : o = true ↔ GoodB h.stamp h.bs) (w : World) (C : List Value) (hR : HRead w h C) (hS : HSm h) :
  Calls Try.prog 128 #[.agg ⟨C⟩] w fun e w' => e = .returned (.bool o) ∧ Below w.heap.size w w':=by
 obtain ⟨Af,cf,Ab,cb,Aq,cq,Ae,ce,rfl,_,_,rb,lb,_,_,_,_⟩:=hR
 have RB:=Lib.hid rb
 have HO:=Lib.hid ho
 have SM:=Lib.hid hS
 clear rb ho hS
 have HB_0 : Hid (Below w.heap.size w w):=Lib.hid (Below.refl _ _)
 go_enter Try.func128,Try.ntmps128
 go_upto_region 1 with (first | ((with_reducible refine gate_dst (N:=1) rfl ?_);refine box_event ?hg (N:=1) ?hd (cs:=⟨hostC h (.slice Af h.fs.length cf) (.slice Ab h.bs.length cb) (.slice Aq h.fr.length cq) (.slice Ae h.ev.length ce)⟩) (t:=32) ?hr ?_;(case hd => rfl);(case hg => rfl);(case hr => first | (go_simp;done) | (go_simp;rfl));intro g1 hg w1 hbox hb;have LO_HB_g1 : Hid (w.heap.size ≤ g1):=Lib.hid (by rw [hg];exact HB_0.out.size);have HEg1:=Lib.hid hg;have HB_1:=Lib.hid (below_then HB_0.out HB_0.out.size hb);have Xg1_1:=Lib.hid hbox;clear hg hbox hb))
 go_wp2_with (fail)
 go_loopw [4,3] (fun v4 v3 wr => ∃ i : Nat,i ≤ h.bs.length ∧ v4 = .int .i64 i ∧ v3 = .int .i64 (busyN h.bs i) ∧ Aside0 (∀ j,j < i → boxOk h.stamp (bxAt h.bs j)) ∧ Aside0 (Uniq (·.f1) h.bs i) ∧ Aside0 (Uniq (·.f2) h.bs i) ∧ Aside0 (wr.heap[g1]? = some (.cells ⟨hostC h (.slice Af h.fs.length cf) (.slice Ab h.bs.length cb) (.slice Aq h.fr.length cq) (.slice Ae h.ev.length ce)⟩ 32 (0,0))) ∧ Aside0 (Below w.heap.size w wr)) (fun v4 _ _ => h.bs.length - (intOf v4).toNat)
 case atStart => exact ⟨0,Nat.zero_le _,rfl,rfl,⟨fun j hj => absurd hj (Nat.not_lt_zero _)⟩,⟨fun i j _ hj => absurd hj (Nat.not_lt_zero _)⟩,⟨fun i j _ hj => absurd hj (Nat.not_lt_zero _)⟩,⟨Xg1_1.out⟩,⟨HB_1.out⟩⟩
 case round =>
  clear Xg1_1 HB_1
  obtain ⟨i,hi,rfl,rfl,HONE,HU1,HU2,HX,HB⟩:=hrel
  have y5 : wr.cell? ⟨g1,5,none⟩ = some (.slice Ab h.bs.length cb):=blk_cell HX.out 5
  by_cases hlt : i < h.bs.length
  ·have b2 : decide ((i : Int) < (h.bs.length : Int)) = true:=decide_eq_true (by omega)
   have p5 : (0 ≤ (i : Int)) = True:=eq_true (by omega)
   have q5 : ((i : Int) < (h.bs.length : Int)) = True:=eq_true (by omega)
   have qn : (i < h.bs.length) = True:=eq_true hlt
   have hn : wrap64 ((i : Int) + 1) = (i : Int) + 1:=by have:=SM.out.l2;unfold wrap64;omega
   have HLT:=Lib.hid hlt
   have HI:=Lib.hid hi
   have HN:=Lib.hid hn
   obtain ⟨ad,A8,c8,ea,k0,k1,k2,k3,k4,k5,k6,k7,l8,g8⟩:=at_T87 (Kd.C_below RB.out HB.out) (i : Int) (by omega) (by omega)
   subst ea
   clear hlt hi
   rw [Int.toNat_natCast] at k0 k1 k2 k3 k4 k5 k6 k7
   obtain ⟨b,hb⟩ : ∃ b,b = rd_T87 h.bs (i : Int):=⟨_,rfl⟩
   rw [← hb] at k0 k1 k2 k3 k4 k5 k6 k7 l8 g8
   have HBX : Hid (b = bxAt h.bs i):=Lib.hid hb
   have HD8 : Hid (b.f3.f4.length ≤ 10000000):=Lib.hid (by rw [hb];exact SM.out.d2 _ (List.mem_of_getElem? (getD_at h.bs i z87 HLT.out)))
   have L8:=Lib.hid l8
   have G8:=Lib.hid g8
   clear hb l8 g8
   have HW_0 : Hid (Below wr.heap.size wr wr):=Lib.hid (Below.refl _ _)
   go_upto_region 6 with (first | ((with_reducible refine gate_dst (N:=5) rfl ?_);refine box_event ?hg (N:=5) ?hd (cs := #[.int .i64 0, .int .i64 0, .int .i64 0, .bool false, .int .u32 0, .bool false, .int .i64 0, .slice none 0 0]) (t:=87) ?hr ?_;(case hd => rfl);(case hg => rfl);(case hr => first | (go_simp;done) | (go_simp;rfl));intro gb hg w1 hbox hb;have LO_HB_gb : Hid (w.heap.size ≤ gb):=Lib.hid (by rw [hg];exact HB.out.size);have LO_HW_gb : Hid (wr.heap.size ≤ gb):=Lib.hid (by rw [hg];exact HW_0.out.size);have NE_g1_gb : Hid (g1 ≠ gb):=Lib.hid (fun e => by have h1:=blk_lt HX.out;omega);have HEgb:=Lib.hid hg;have HB_1:=Lib.hid (below_then HB.out HB.out.size hb);have HW_1:=Lib.hid (below_then HW_0.out HW_0.out.size hb);have X_1:=Lib.hid (blk_below HX.out hb);have Xgb_1:=Lib.hid hbox;clear hg hbox hb) | ((with_reducible refine gate_store (t:=87) (p:=5) rfl ?_);refine store_box rfl rfl rfl (g:=gb) (j:=0) (cs := #[.int .i64 0, .int .i64 0, .int .i64 0, .bool false, .int .u32 0, .bool false, .int .i64 0, .slice none 0 0]) (cs':=⟨[.int .i64 b.f0, .int .i64 b.f1, .int .i64 b.f2, .bool b.f3.f0, .int .u32 b.f3.f1, .bool b.f3.f2, .int .i64 b.f3.f3, .slice A8 b.f3.f4.length c8]⟩) (seg := [.int .i64 b.f0, .int .i64 b.f1, .int .i64 b.f2, .bool b.f3.f0, .int .u32 b.f3.f1, .bool b.f3.f2, .int .i64 b.f3.f3, .slice A8 b.f3.f4.length c8]) rfl rfl Xgb_1.out rfl (by kernel_rfl) rfl rfl rfl ?_;intro w2 hx hT;have HB_2:=Lib.hid (hT.below HB_1.out HB_1.out.size (fun k hk => by rw [hk];exact LO_HB_gb.out));have HW_2:=Lib.hid (hT.below HW_1.out HW_1.out.size (fun k hk => by rw [hk];exact LO_HW_gb.out));have X_2:=Lib.hid (hT.blk X_1.out NE_g1_gb.out);have Xgb_2:=Lib.hid hx;clear hx hT))
   clear k0 k1 k2 k3 k4 k5 k6 k7 y5
   have y0 : w2.cell? ⟨gb,0,none⟩ = some (.int .i64 b.f0):=blk_cell Xgb_2.out 0
   have y1 : w2.cell? ⟨gb,1,none⟩ = some (.int .i64 b.f1):=blk_cell Xgb_2.out 1
   have y2 : w2.cell? ⟨gb,2,none⟩ = some (.int .i64 b.f2):=blk_cell Xgb_2.out 2
   have y3 : w2.cell? ⟨gb,3,none⟩ = some (.bool b.f3.f0):=blk_cell Xgb_2.out 3
   have y4 : w2.cell? ⟨gb,4,none⟩ = some (.int .u32 b.f3.f1):=blk_cell Xgb_2.out 4
   have y5 : w2.cell? ⟨gb,5,none⟩ = some (.bool b.f3.f2):=blk_cell Xgb_2.out 5
   have y6 : w2.cell? ⟨gb,6,none⟩ = some (.int .i64 b.f3.f3):=blk_cell Xgb_2.out 6
   have y7 : w2.cell? ⟨gb,7,none⟩ = some (.slice A8 b.f3.f4.length c8):=blk_cell Xgb_2.out 7
   have n9 : w2.cell? ⟨g1,9,none⟩ = some (.int .i64 h.stamp):=blk_cell X_2.out 9
   by_cases hz : b.f0 = 0
   ·have e0 : (b.f0 == 0) = true:=beq_iff_eq.2 hz
    have HZ:=Lib.hid hz
    clear hz
    by_cases r0 : b.f1 ≠ 0
    ·have sr0 : (b.f1 != 0) = true:=bne_iff_ne.2 r0
     have R0:=Lib.hid r0
     clear r0
     go_wp2_with (fail)
     go_ret
     exact ⟨by rw [isF HO.out (fun G => (by have h1:=(G.one i HLT.out).1;rw [← HBX.out] at h1;exact R0.out (h1 HZ.out).1))];rfl,HB_2.out⟩
    have sr0 : (b.f1 != 0) = false:=by rw [Classical.not_not.1 r0];rfl
    have R0:=Lib.hid r0
    clear r0
    by_cases r1 : b.f2 ≠ 0
    ·have sr1 : (b.f2 != 0) = true:=bne_iff_ne.2 r1
     have R1:=Lib.hid r1
     clear r1
     go_wp2_with (fail)
     go_ret
     exact ⟨by rw [isF HO.out (fun G => (by have h1:=(G.one i HLT.out).1;rw [← HBX.out] at h1;exact R1.out (h1 HZ.out).2.1))];rfl,HB_2.out⟩
    have sr1 : (b.f2 != 0) = false:=by rw [Classical.not_not.1 r1];rfl
    have R1:=Lib.hid r1
    clear r1
    cases q3 : zeroB b.f3 with
    | false =>
     have Q3:=Lib.hid q3
     clear q3
     go_wp2_with (first | (go_at_call 127;refine (specZero_at b.f3 A8 c8 w2 false Q3.out (Kd.C_below G8.out HW_2.out) L8.out).mono ?_;rintro e w3 ⟨rfl,hb⟩;have HB_3:=Lib.hid (below_then HB_2.out HB_2.out.size hb);have HW_3:=Lib.hid (below_then HW_2.out HW_2.out.size hb);have X_3:=Lib.hid (blk_below X_2.out hb);have Xgb_3:=Lib.hid (blk_below Xgb_2.out hb);clear hb))
     go_ret
     exact ⟨by rw [isF HO.out (fun G => (by have h1:=(G.one i HLT.out).1;rw [← HBX.out] at h1;exact by have h2:=(h1 HZ.out).2.2;rw [Q3.out] at h2;cases h2))];rfl,HB_3.out⟩
    | true =>
     have Q3:=Lib.hid q3
     clear q3
     go_wp2_with (first | (go_at_call 127;refine (specZero_at b.f3 A8 c8 w2 true Q3.out (Kd.C_below G8.out HW_2.out) L8.out).mono ?_;rintro e w3 ⟨rfl,hb⟩;have HB_3:=Lib.hid (below_then HB_2.out HB_2.out.size hb);have HW_3:=Lib.hid (below_then HW_2.out HW_2.out.size hb);have X_3:=Lib.hid (blk_below X_2.out hb);have Xgb_3:=Lib.hid (blk_below Xgb_2.out hb);clear hb))
     go_roundw
     case rel =>
      have hz : ¬ Live h.bs i:=fun e => e (by rw [← HBX.out];exact HZ.out)
      have hz' : (bxAt h.bs i).f0 = 0:=by rw [← HBX.out];exact HZ.out
      exact ⟨i + 1,HLT.out,by rw [HN.out];rfl,by rw [busyN,if_pos hz'],⟨fun j hj => by by_cases e : j = i;subst e;exact (by rw [← HBX.out];exact ⟨fun _ => ⟨Classical.not_not.1 R0.out,Classical.not_not.1 R1.out,Q3.out⟩,fun h => absurd HZ.out h⟩);exact HONE.out j (by omega)⟩,⟨HU1.out.free hz⟩,⟨HU2.out.free hz⟩,⟨X_3.out⟩,⟨HB_3.out⟩⟩
     case measure => rw [HN.out];have:=HLT.out;simp [intOf];omega
   ·have e0 : (b.f0 == 0) = false:=beq_eq_false_iff_ne.2 hz
    have HZ:=Lib.hid hz
    clear hz
    by_cases r0 : b.f0 < 0
    ·have sr0 : decide (b.f0 < 0) = true:=decide_eq_true r0
     have R0:=Lib.hid r0
     clear r0
     go_wp2_with (fail)
     go_ret
     exact ⟨by rw [isF HO.out (fun G => (by have h1:=(G.one i HLT.out).2;rw [← HBX.out] at h1;have h2:=h1 HZ.out;exact by have:=R0.out;omega))];rfl,HB_2.out⟩
    have sr0 : decide (b.f0 < 0) = false:=decide_eq_false r0
    have R0:=Lib.hid r0
    clear r0
    by_cases r1 : b.f0 > 3
    ·have sr1 : decide (b.f0 > 3) = true:=decide_eq_true r1
     have R1:=Lib.hid r1
     clear r1
     go_wp2_with (fail)
     go_ret
     exact ⟨by rw [isF HO.out (fun G => (by have h1:=(G.one i HLT.out).2;rw [← HBX.out] at h1;have h2:=h1 HZ.out;exact by have:=R1.out;omega))];rfl,HB_2.out⟩
    have sr1 : decide (b.f0 > 3) = false:=decide_eq_false r1
    have R1:=Lib.hid r1
    clear r1
    by_cases r2 : b.f1 < 0
    ·have sr2 : decide (b.f1 < 0) = true:=decide_eq_true r2
     have R2:=Lib.hid r2
     clear r2
     go_wp2_with (fail)
     go_ret
     exact ⟨by rw [isF HO.out (fun G => (by have h1:=(G.one i HLT.out).2;rw [← HBX.out] at h1;have h2:=h1 HZ.out;exact by have:=R2.out;omega))];rfl,HB_2.out⟩
    have sr2 : decide (b.f1 < 0) = false:=decide_eq_false r2
    have R2:=Lib.hid r2
    clear r2
    by_cases r3 : b.f1 > 9999
    ·have sr3 : decide (b.f1 > 9999) = true:=decide_eq_true r3
     have R3:=Lib.hid r3
     clear r3
     go_wp2_with (fail)
     go_ret
     exact ⟨by rw [isF HO.out (fun G => (by have h1:=(G.one i HLT.out).2;rw [← HBX.out] at h1;have h2:=h1 HZ.out;exact by have:=R3.out;omega))];rfl,HB_2.out⟩
    have sr3 : decide (b.f1 > 9999) = false:=decide_eq_false r3
    have R3:=Lib.hid r3
    clear r3
    by_cases r4 : b.f2 < 0
    ·have sr4 : decide (b.f2 < 0) = true:=decide_eq_true r4
     have R4:=Lib.hid r4
     clear r4
     go_wp2_with (fail)
     go_ret
     exact ⟨by rw [isF HO.out (fun G => (by have h1:=(G.one i HLT.out).2;rw [← HBX.out] at h1;have h2:=h1 HZ.out;exact by have:=R4.out;omega))];rfl,HB_2.out⟩
    have sr4 : decide (b.f2 < 0) = false:=decide_eq_false r4
    have R4:=Lib.hid r4
    clear r4
    by_cases r5 : b.f2 ≥ h.stamp
    ·have sr5 : decide (b.f2 ≥ h.stamp) = true:=decide_eq_true r5
     have R5:=Lib.hid r5
     clear r5
     go_wp2_with (fail)
     go_ret
     exact ⟨by rw [isF HO.out (fun G => (by have h1:=(G.one i HLT.out).2;rw [← HBX.out] at h1;have h2:=h1 HZ.out;exact by have:=R5.out;omega))];rfl,HB_2.out⟩
    have sr5 : decide (b.f2 ≥ h.stamp) = false:=decide_eq_false r5
    have R5:=Lib.hid r5
    clear r5
    cases q3 : valF b.f3 with
    | false =>
     have Q3:=Lib.hid q3
     clear q3
     go_wp2_with (first | (go_at_call 75;refine (specValid_at b.f3 A8 c8 w2 false Q3.out (Kd.C_below G8.out HW_2.out) L8.out).mono ?_;rintro e w3 ⟨rfl,hb⟩;have HB_3:=Lib.hid (below_then HB_2.out HB_2.out.size hb);have HW_3:=Lib.hid (below_then HW_2.out HW_2.out.size hb);have X_3:=Lib.hid (blk_below X_2.out hb);have Xgb_3:=Lib.hid (blk_below Xgb_2.out hb);clear hb))
     go_ret
     exact ⟨by rw [isF HO.out (fun G => (by have h1:=(G.one i HLT.out).2;rw [← HBX.out] at h1;have h2:=h1 HZ.out;exact by have h3:=h2.2.2.2.2.2.2;rw [Q3.out] at h3;cases h3))];rfl,HB_3.out⟩
    | true =>
     have Q3:=Lib.hid q3
     clear q3
     go_upto_region 13 with (first | (go_at_call 75;refine (specValid_at b.f3 A8 c8 w2 true Q3.out (Kd.C_below G8.out HW_2.out) L8.out).mono ?_;rintro e w3 ⟨rfl,hb⟩;have HB_3:=Lib.hid (below_then HB_2.out HB_2.out.size hb);have HW_3:=Lib.hid (below_then HW_2.out HW_2.out.size hb);have X_3:=Lib.hid (blk_below X_2.out hb);have Xgb_3:=Lib.hid (blk_below Xgb_2.out hb);clear hb))
     clear y0 y1 y2 y3 y4 y5 y6 y7 n9
     have y0 : w3.cell? ⟨gb,0,none⟩ = some (.int .i64 b.f0):=blk_cell Xgb_3.out 0
     have HONE1 : Hid (∀ j,j < i + 1 → boxOk h.stamp (bxAt h.bs j)):=Lib.hid (fun j hj => by by_cases e : j = i;subst e;exact (by rw [← HBX.out];exact ⟨fun h => absurd h HZ.out,fun _ => ⟨by have:=R0.out;omega,by have:=R1.out;omega,by have:=R2.out;omega,by have:=R3.out;omega,by have:=R4.out;omega,by have:=R5.out;omega,Q3.out⟩⟩);exact HONE.out j (by omega))
     obtain ⟨nb,hnb⟩ : ∃ nb,nb = busyN h.bs (i + 1):=⟨_,rfl⟩
     have HNB:=Lib.hid hnb
     clear sr0 sr1 sr2 sr3 sr4 sr5 e0
     by_cases q1 : b.f0 = 1
     ·have e1 : (b.f0 != 1) = false:=by rw [q1];rfl
      have Q1:=Lib.hid q1
      clear q1
      have hq : busyN h.bs i = nb:=by rw [hnb,busyN, ← HBX.out,if_neg HZ.out,if_pos Q1.out]
      rw [hq]
      clear hq
      clear hnb
      go_wp2_with (fail)
      clear y0 e1 b2 p5 q5 qn hn
      go_loopw [6] (fun v6 wr => ∃ j : Nat,j ≤ i ∧ v6 = .int .i64 j ∧ Aside0 (∀ t,t < j → Live h.bs t → (bxAt h.bs t).f1 ≠ b.f1 ∧ (bxAt h.bs t).f2 ≠ b.f2) ∧ Aside0 (wr.heap[g1]? = some (.cells ⟨hostC h (.slice Af h.fs.length cf) (.slice (some ad) h.bs.length cb) (.slice Aq h.fr.length cq) (.slice Ae h.ev.length ce)⟩ 32 (0,0))) ∧ Aside0 (wr.heap[gb]? = some (.cells ⟨[.int .i64 b.f0, .int .i64 b.f1, .int .i64 b.f2, .bool b.f3.f0, .int .u32 b.f3.f1, .bool b.f3.f2, .int .i64 b.f3.f3, .slice A8 b.f3.f4.length c8]⟩ 87 (0,0))) ∧ Aside0 (Below w.heap.size w wr)) (fun v6 _ => i - (intOf v6).toNat)
      case atStart => exact ⟨0,Nat.zero_le _,rfl,⟨fun t ht => absurd ht (Nat.not_lt_zero _)⟩,⟨X_3.out⟩,⟨Xgb_3.out⟩,⟨HB_3.out⟩⟩
      case round =>
       clear X_3 Xgb_3 HB_3
       obtain ⟨j,hj,rfl,HT,HXj,HGj,HBj⟩:=hrel
       by_cases hlt : j < i
       ·have hjl : j < h.bs.length:=Nat.lt_trans hlt HLT.out
        have a1 : (0 : Int) ≤ (j : Int):=Int.natCast_nonneg _
        have a2 : (j : Int) < (h.bs.length : Int):=by exact_mod_cast hjl
        have HC3:=Kd.C_below RB.out HBj.out
        obtain ⟨ad2,B8,d8,ea2,k0,k1,k2,k3,k4,k5,k6,k7,l8,g8⟩:=at_T87 HC3 (j : Int) a1 a2
        cases ea2
        clear l8 g8 k3 k4 k5 k6 k7 a1 a2 HC3
        have b2 : decide ((j : Int) < (i : Int)) = true:=decide_eq_true (by omega)
        have p5 : (0 ≤ (j : Int)) = True:=eq_true (by omega)
        have q5 : ((j : Int) < (h.bs.length : Int)) = True:=eq_true (by omega)
        have qn : (j < h.bs.length) = True:=eq_true hjl
        have hn : wrap64 ((j : Int) + 1) = (j : Int) + 1:=by have:=SM.out.l2;have:=HLT.out;unfold wrap64;omega
        have HLJ:=Lib.hid hlt
        have HNJ:=Lib.hid hn
        have y5 : wr.cell? ⟨g1,5,none⟩ = some (.slice (some ad) h.bs.length cb):=blk_cell HXj.out 5
        have y1 : wr.cell? ⟨gb,1,none⟩ = some (.int .i64 b.f1):=blk_cell HGj.out 1
        have y2 : wr.cell? ⟨gb,2,none⟩ = some (.int .i64 b.f2):=blk_cell HGj.out 2
        clear hlt hj hjl
        rw [Int.toNat_natCast] at k0 k1 k2
        obtain ⟨x,hx⟩ : ∃ x,x = rd_T87 h.bs (j : Int):=⟨_,rfl⟩
        rw [← hx] at k0 k1 k2
        have HXE : Hid (x = bxAt h.bs j):=Lib.hid hx
        clear hx
        by_cases u0 : x.f0 = 0
        ·have t0 : (x.f0 != 0) = false:=by rw [u0];rfl
         have U0:=Lib.hid u0
         clear u0
         go_wp2_with (fail)
         go_quiet (fail)
         go_wp2_with (fail)
         go_roundw
         case rel => exact ⟨j + 1,HLJ.out,by rw [HNJ.out];rfl,⟨fun t ht hl => by by_cases e : t = j;subst e;have hl2:=hl;unfold Live at hl2;rw [← HXE.out] at hl2 ⊢;exact absurd U0.out hl2;exact HT.out t (by omega) hl⟩,⟨blk_below HXj.out (below_drewN' (Below.refl _ _) _)⟩,⟨blk_below HGj.out (below_drewN' (Below.refl _ _) _)⟩,⟨below_drewN' HBj.out _⟩⟩
         case measure => rw [HNJ.out];have:=HLJ.out;simp [intOf];omega
        have t0 : (x.f0 != 0) = true:=bne_iff_ne.2 u0
        have U0:=Lib.hid u0
        clear u0
        by_cases u1 : x.f1 = b.f1
        ·have t1 : (x.f1 == b.f1) = true:=beq_iff_eq.2 u1
         have U1:=Lib.hid u1
         clear u1
         go_wp2_with (fail)
         go_quiet (fail)
         go_wp2_with (fail)
         go_ret
         exact ⟨by rw [isF HO.out (fun G => G.tag i j HLJ.out HLT.out (by rw [Live, ← HBX.out];exact HZ.out) (by rw [Live, ← HXE.out];exact U0.out) (by rw [← HBX.out, ← HXE.out];exact (U1.out).symm))];rfl,below_drewN' HBj.out _⟩
        have t1 : (x.f1 == b.f1) = false:=beq_eq_false_iff_ne.2 u1
        have U1:=Lib.hid u1
        clear u1
        by_cases u2 : x.f2 = b.f2
        ·have t2 : (x.f2 == b.f2) = true:=beq_iff_eq.2 u2
         have U2:=Lib.hid u2
         clear u2
         go_wp2_with (fail)
         go_quiet (fail)
         go_wp2_with (fail)
         go_ret
         exact ⟨by rw [isF HO.out (fun G => G.stamp i j HLJ.out HLT.out (by rw [Live, ← HBX.out];exact HZ.out) (by rw [Live, ← HXE.out];exact U0.out) (by rw [← HBX.out, ← HXE.out];exact (U2.out).symm))];rfl,below_drewN' HBj.out _⟩
        have t2 : (x.f2 == b.f2) = false:=beq_eq_false_iff_ne.2 u2
        have U2:=Lib.hid u2
        clear u2
        go_wp2_with (fail)
        go_quiet (fail)
        go_wp2_with (fail)
        go_roundw
        case rel => exact ⟨j + 1,HLJ.out,by rw [HNJ.out];rfl,⟨fun t ht hl => by by_cases e : t = j;subst e;have hl2:=hl;unfold Live at hl2;rw [← HXE.out] at hl2 ⊢;exact ⟨U1.out,U2.out⟩;exact HT.out t (by omega) hl⟩,⟨blk_below HXj.out (below_drewN' (Below.refl _ _) _)⟩,⟨blk_below HGj.out (below_drewN' (Below.refl _ _) _)⟩,⟨below_drewN' HBj.out _⟩⟩
        case measure => rw [HNJ.out];have:=HLJ.out;simp [intOf];omega
       ·have hij : j = i:=by omega
        subst hij
        have b2 : decide ((j : Int) < (j : Int)) = false:=decide_eq_false (by omega)
        have hn : wrap64 ((j : Int) + 1) = (j : Int) + 1:=HN.out
        go_wp2_with (fail)
        go_roundw
        case rel => exact ⟨j + 1,HLT.out,by rw [HN.out];rfl,by rw [HNB.out],⟨HONE1.out⟩,⟨HU1.out.more (fun t ht hl => by have:=(HT.out t ht hl).1;rw [HBX.out] at this;exact fun e => this e.symm)⟩,⟨HU2.out.more (fun t ht hl => by have:=(HT.out t ht hl).2;rw [HBX.out] at this;exact fun e => this e.symm)⟩,⟨HXj.out⟩,⟨HBj.out⟩⟩
        case measure => rw [HN.out];have:=HLT.out;simp [intOf];omega
     ·have e1 : (b.f0 != 1) = true:=bne_iff_ne.2 q1
      have Q1:=Lib.hid q1
      clear q1
      have hw : wrap64 ((busyN h.bs i : Int) + 1) = (nb : Int):=by rw [hnb,busyN, ← HBX.out,if_neg HZ.out,if_neg Q1.out];have h1:=busyN_le h.bs i;have h2:=SM.out.l2;have h3:=HLT.out;unfold wrap64;omega
      clear hnb
      go_wp2_with (fail)
      rw [hw]
      clear hw
      clear y0 e1 b2 p5 q5 qn hn
      go_loopw [6] (fun v6 wr => ∃ j : Nat,j ≤ i ∧ v6 = .int .i64 j ∧ Aside0 (∀ t,t < j → Live h.bs t → (bxAt h.bs t).f1 ≠ b.f1 ∧ (bxAt h.bs t).f2 ≠ b.f2) ∧ Aside0 (wr.heap[g1]? = some (.cells ⟨hostC h (.slice Af h.fs.length cf) (.slice (some ad) h.bs.length cb) (.slice Aq h.fr.length cq) (.slice Ae h.ev.length ce)⟩ 32 (0,0))) ∧ Aside0 (wr.heap[gb]? = some (.cells ⟨[.int .i64 b.f0, .int .i64 b.f1, .int .i64 b.f2, .bool b.f3.f0, .int .u32 b.f3.f1, .bool b.f3.f2, .int .i64 b.f3.f3, .slice A8 b.f3.f4.length c8]⟩ 87 (0,0))) ∧ Aside0 (Below w.heap.size w wr)) (fun v6 _ => i - (intOf v6).toNat)
      case atStart => exact ⟨0,Nat.zero_le _,rfl,⟨fun t ht => absurd ht (Nat.not_lt_zero _)⟩,⟨X_3.out⟩,⟨Xgb_3.out⟩,⟨HB_3.out⟩⟩
      case round =>
       clear X_3 Xgb_3 HB_3
       obtain ⟨j,hj,rfl,HT,HXj,HGj,HBj⟩:=hrel
       by_cases hlt : j < i
       ·have hjl : j < h.bs.length:=Nat.lt_trans hlt HLT.out
        have a1 : (0 : Int) ≤ (j : Int):=Int.natCast_nonneg _
        have a2 : (j : Int) < (h.bs.length : Int):=by exact_mod_cast hjl
        have HC3:=Kd.C_below RB.out HBj.out
        obtain ⟨ad2,B8,d8,ea2,k0,k1,k2,k3,k4,k5,k6,k7,l8,g8⟩:=at_T87 HC3 (j : Int) a1 a2
        cases ea2
        clear l8 g8 k3 k4 k5 k6 k7 a1 a2 HC3
        have b2 : decide ((j : Int) < (i : Int)) = true:=decide_eq_true (by omega)
        have p5 : (0 ≤ (j : Int)) = True:=eq_true (by omega)
        have q5 : ((j : Int) < (h.bs.length : Int)) = True:=eq_true (by omega)
        have qn : (j < h.bs.length) = True:=eq_true hjl
        have hn : wrap64 ((j : Int) + 1) = (j : Int) + 1:=by have:=SM.out.l2;have:=HLT.out;unfold wrap64;omega
        have HLJ:=Lib.hid hlt
        have HNJ:=Lib.hid hn
        have y5 : wr.cell? ⟨g1,5,none⟩ = some (.slice (some ad) h.bs.length cb):=blk_cell HXj.out 5
        have y1 : wr.cell? ⟨gb,1,none⟩ = some (.int .i64 b.f1):=blk_cell HGj.out 1
        have y2 : wr.cell? ⟨gb,2,none⟩ = some (.int .i64 b.f2):=blk_cell HGj.out 2
        clear hlt hj hjl
        rw [Int.toNat_natCast] at k0 k1 k2
        obtain ⟨x,hx⟩ : ∃ x,x = rd_T87 h.bs (j : Int):=⟨_,rfl⟩
        rw [← hx] at k0 k1 k2
        have HXE : Hid (x = bxAt h.bs j):=Lib.hid hx
        clear hx
        by_cases u0 : x.f0 = 0
        ·have t0 : (x.f0 != 0) = false:=by rw [u0];rfl
         have U0:=Lib.hid u0
         clear u0
         go_wp2_with (fail)
         go_quiet (fail)
         go_wp2_with (fail)
         go_roundw
         case rel => exact ⟨j + 1,HLJ.out,by rw [HNJ.out];rfl,⟨fun t ht hl => by by_cases e : t = j;subst e;have hl2:=hl;unfold Live at hl2;rw [← HXE.out] at hl2 ⊢;exact absurd U0.out hl2;exact HT.out t (by omega) hl⟩,⟨blk_below HXj.out (below_drewN' (Below.refl _ _) _)⟩,⟨blk_below HGj.out (below_drewN' (Below.refl _ _) _)⟩,⟨below_drewN' HBj.out _⟩⟩
         case measure => rw [HNJ.out];have:=HLJ.out;simp [intOf];omega
        have t0 : (x.f0 != 0) = true:=bne_iff_ne.2 u0
        have U0:=Lib.hid u0
        clear u0
        by_cases u1 : x.f1 = b.f1
        ·have t1 : (x.f1 == b.f1) = true:=beq_iff_eq.2 u1
         have U1:=Lib.hid u1
         clear u1
         go_wp2_with (fail)
         go_quiet (fail)
         go_wp2_with (fail)
         go_ret
         exact ⟨by rw [isF HO.out (fun G => G.tag i j HLJ.out HLT.out (by rw [Live, ← HBX.out];exact HZ.out) (by rw [Live, ← HXE.out];exact U0.out) (by rw [← HBX.out, ← HXE.out];exact (U1.out).symm))];rfl,below_drewN' HBj.out _⟩
        have t1 : (x.f1 == b.f1) = false:=beq_eq_false_iff_ne.2 u1
        have U1:=Lib.hid u1
        clear u1
        by_cases u2 : x.f2 = b.f2
        ·have t2 : (x.f2 == b.f2) = true:=beq_iff_eq.2 u2
         have U2:=Lib.hid u2
         clear u2
         go_wp2_with (fail)
         go_quiet (fail)
         go_wp2_with (fail)
         go_ret
         exact ⟨by rw [isF HO.out (fun G => G.stamp i j HLJ.out HLT.out (by rw [Live, ← HBX.out];exact HZ.out) (by rw [Live, ← HXE.out];exact U0.out) (by rw [← HBX.out, ← HXE.out];exact (U2.out).symm))];rfl,below_drewN' HBj.out _⟩
        have t2 : (x.f2 == b.f2) = false:=beq_eq_false_iff_ne.2 u2
        have U2:=Lib.hid u2
        clear u2
        go_wp2_with (fail)
        go_quiet (fail)
        go_wp2_with (fail)
        go_roundw
        case rel => exact ⟨j + 1,HLJ.out,by rw [HNJ.out];rfl,⟨fun t ht hl => by by_cases e : t = j;subst e;have hl2:=hl;unfold Live at hl2;rw [← HXE.out] at hl2 ⊢;exact ⟨U1.out,U2.out⟩;exact HT.out t (by omega) hl⟩,⟨blk_below HXj.out (below_drewN' (Below.refl _ _) _)⟩,⟨blk_below HGj.out (below_drewN' (Below.refl _ _) _)⟩,⟨below_drewN' HBj.out _⟩⟩
        case measure => rw [HNJ.out];have:=HLJ.out;simp [intOf];omega
       ·have hij : j = i:=by omega
        subst hij
        have b2 : decide ((j : Int) < (j : Int)) = false:=decide_eq_false (by omega)
        have hn : wrap64 ((j : Int) + 1) = (j : Int) + 1:=HN.out
        go_wp2_with (fail)
        go_roundw
        case rel => exact ⟨j + 1,HLT.out,by rw [HN.out];rfl,by rw [HNB.out],⟨HONE1.out⟩,⟨HU1.out.more (fun t ht hl => by have:=(HT.out t ht hl).1;rw [HBX.out] at this;exact fun e => this e.symm)⟩,⟨HU2.out.more (fun t ht hl => by have:=(HT.out t ht hl).2;rw [HBX.out] at this;exact fun e => this e.symm)⟩,⟨HXj.out⟩,⟨HBj.out⟩⟩
        case measure => rw [HN.out];have:=HLT.out;simp [intOf];omega
  ·have hii : i = h.bs.length:=by omega
   subst hii
   have b2 : decide ((h.bs.length : Int) < (h.bs.length : Int)) = false:=decide_eq_false (by omega)
   obtain ⟨nb,hnb⟩ : ∃ n,n = busyN h.bs h.bs.length:=⟨_,rfl⟩
   rw [← hnb]
   have HNB:=Lib.hid hnb
   clear hnb hi
   by_cases q1 : nb ≤ 1
   rotate_left
   ·have s1 : decide ((nb : Int) ≤ 1) = false:=decide_eq_false (by omega)
    have Q1:=Lib.hid q1
    clear q1
    go_wp2_with (fail)
    go_ret
    exact ⟨by rw [isF HO.out (fun G => Q1.out (by rw [HNB.out];exact G.busy))];rfl,HB.out⟩
   have s1 : decide ((nb : Int) ≤ 1) = true:=decide_eq_true (by omega)
   have Q1:=Lib.hid q1
   clear q1
   go_wp2_with (fail)
   go_ret
   have G : GoodB h.stamp h.bs:=⟨HONE.out,HU1.out,HU2.out,by rw [← HNB.out];exact Q1.out⟩
   exact ⟨by rw [HO.out.2 G];rfl,HB.out⟩
set_option maxRecDepth 100000 in
set_option maxHeartbeats 8000000 in
theorem specOk_v (h : HV) (o o1 o2 o3 o4 : Bool) (hO : OkH h o o1 o2 o3 o4) (w : World) (C : List Value) (hR : HRead w h C) (hS : HSm h) :
  Calls Try.prog 86 #[.agg ⟨C⟩] w fun e w' => e = .returned (.bool o) ∧ Below w.heap.size w w':=by
 have RR:=Lib.hid hR
 obtain ⟨Af,cf,Ab,cb,Aq,cq,Ae,ce,rfl,rf,lf,_,_,rq,lq,re,le⟩:=hR
 have RF:=Lib.hid rf
 have LF:=Lib.hid lf
 have RQ:=Lib.hid rq
 have RE:=Lib.hid re
 have SM:=Lib.hid hS
 have E1 : Hid (spec_l3okConfig.f h.cb h.cf h.cp h.ce = some o1):=Lib.hid hO.e1
 obtain ⟨kf,hkf⟩:=hO.e2'.rounds
 have E2:=Lib.hid hkf
 have E3:=Lib.hid hO.e3
 have E4:=Lib.hid hO.e4
 have HIS:=Lib.hid hO.is
 have HB_0 : Hid (Below w.heap.size w w):=Lib.hid (Below.refl _ _)
 have hu32:=Lib.hid Try.underlying32
 clear hS rf lf hO hkf rq re
 go_enter Try.func86,Try.ntmps86
 go_upto_region 1 with (first | ((with_reducible refine gate_dst (N:=1) rfl ?_);refine box_event ?hg (N:=1) ?hd (cs:=⟨hostC h (.slice Af h.fs.length cf) (.slice Ab h.bs.length cb) (.slice Aq h.fr.length cq) (.slice Ae h.ev.length ce)⟩) (t:=32) ?hr ?_;(case hd => rfl);(case hg => rfl);(case hr => first | (go_simp;done) | (go_simp;rfl));intro g1 hg w1 hbox hb;have LO_HB_g1 : Hid (w.heap.size ≤ g1):=Lib.hid (by rw [hg];exact HB_0.out.size);have HEg1:=Lib.hid hg;have HB_1:=Lib.hid (below_then HB_0.out HB_0.out.size hb);have Xg1_1:=Lib.hid hbox;clear hg hbox hb))
 have y0 : w1.cell? ⟨g1,0,none⟩ = some (.int .i64 h.cb):=blk_cell Xg1_1.out 0
 have y1 : w1.cell? ⟨g1,1,none⟩ = some (.int .i64 h.cf):=blk_cell Xg1_1.out 1
 have y2 : w1.cell? ⟨g1,2,none⟩ = some (.int .i64 h.cp):=blk_cell Xg1_1.out 2
 have y3 : w1.cell? ⟨g1,3,none⟩ = some (.int .i64 h.ce):=blk_cell Xg1_1.out 3
 cases o1 with
 | false =>
  go_wp2_with (first | (go_at_call 57;refine (spec_l3okConfig.calls h.cb h.cf h.cp h.ce false w1 E1.out).mono ?_;rintro e w2 ⟨rfl,hb⟩;have HB_2:=Lib.hid (below_then HB_1.out HB_1.out.size hb);have Xg1_2:=Lib.hid (blk_below Xg1_1.out hb);have f4 : w2.cell? ⟨g1,4,none⟩ = some (.slice Af h.fs.length cf):=blk_cell Xg1_2.out 4;clear hb))
  go_ret
  exact ⟨by rw [show o = false by rw [HIS.out,Bool.false_and] <;> simp];rfl,HB_2.out⟩
 | true =>
  cases o2 with
  | false =>
   go_wp2_with (first | (go_at_call 57;refine (spec_l3okConfig.calls h.cb h.cf h.cp h.ce true w1 E1.out).mono ?_;rintro e w2 ⟨rfl,hb⟩;have HB_2:=Lib.hid (below_then HB_1.out HB_1.out.size hb);have Xg1_2:=Lib.hid (blk_below Xg1_1.out hb);have f4 : w2.cell? ⟨g1,4,none⟩ = some (.slice Af h.fs.length cf):=blk_cell Xg1_2.out 4;clear hb) | (go_at_call 58;refine (spec_l3okFilters.calls kf Af cf h.fs false w2 (Kd.C_below RF.out HB_2.out) LF.out E2.out).mono ?_;rintro e w3 ⟨rfl,hd⟩;have hb:=hd.below;have HB_3:=Lib.hid (below_then HB_2.out HB_2.out.size hb);have Xg1_3:=Lib.hid (blk_below Xg1_2.out hb);have l0 : w3.cell? ⟨g1,0,none⟩ = some (.int .i64 h.cb):=blk_cell Xg1_3.out 0;have l1 : w3.cell? ⟨g1,1,none⟩ = some (.int .i64 h.cf):=blk_cell Xg1_3.out 1;have l3 : w3.cell? ⟨g1,3,none⟩ = some (.int .i64 h.ce):=blk_cell Xg1_3.out 3;have l5 : w3.cell? ⟨g1,5,none⟩ = some (.slice Ab h.bs.length cb):=blk_cell Xg1_3.out 5;have l6 : w3.cell? ⟨g1,6,none⟩ = some (.slice Aq h.fr.length cq):=blk_cell Xg1_3.out 6;have l7 : w3.cell? ⟨g1,7,none⟩ = some (.slice Ae h.ev.length ce):=blk_cell Xg1_3.out 7;have l8 : w3.cell? ⟨g1,8,none⟩ = some (.int .i64 h.lost):=blk_cell Xg1_3.out 8;have l9 : w3.cell? ⟨g1,9,none⟩ = some (.int .i64 h.stamp):=blk_cell Xg1_3.out 9;clear hb hd))
   go_ret
   exact ⟨by rw [show o = false by rw [HIS.out,Bool.false_and] <;> simp];rfl,HB_3.out⟩
  | true =>
   by_cases p0 : (h.bs.length : Int) ≠ h.cb
   ·have sp0 : ((h.bs.length : Int) != h.cb) = true:=bne_iff_ne.2 p0
    have P0:=Lib.hid p0
    clear p0
    go_wp2_with (first | (go_at_call 57;refine (spec_l3okConfig.calls h.cb h.cf h.cp h.ce true w1 E1.out).mono ?_;rintro e w2 ⟨rfl,hb⟩;have HB_2:=Lib.hid (below_then HB_1.out HB_1.out.size hb);have Xg1_2:=Lib.hid (blk_below Xg1_1.out hb);have f4 : w2.cell? ⟨g1,4,none⟩ = some (.slice Af h.fs.length cf):=blk_cell Xg1_2.out 4;clear hb) | (go_at_call 58;refine (spec_l3okFilters.calls kf Af cf h.fs true w2 (Kd.C_below RF.out HB_2.out) LF.out E2.out).mono ?_;rintro e w3 ⟨rfl,hd⟩;have hb:=hd.below;have HB_3:=Lib.hid (below_then HB_2.out HB_2.out.size hb);have Xg1_3:=Lib.hid (blk_below Xg1_2.out hb);have l0 : w3.cell? ⟨g1,0,none⟩ = some (.int .i64 h.cb):=blk_cell Xg1_3.out 0;have l1 : w3.cell? ⟨g1,1,none⟩ = some (.int .i64 h.cf):=blk_cell Xg1_3.out 1;have l3 : w3.cell? ⟨g1,3,none⟩ = some (.int .i64 h.ce):=blk_cell Xg1_3.out 3;have l5 : w3.cell? ⟨g1,5,none⟩ = some (.slice Ab h.bs.length cb):=blk_cell Xg1_3.out 5;have l6 : w3.cell? ⟨g1,6,none⟩ = some (.slice Aq h.fr.length cq):=blk_cell Xg1_3.out 6;have l7 : w3.cell? ⟨g1,7,none⟩ = some (.slice Ae h.ev.length ce):=blk_cell Xg1_3.out 7;have l8 : w3.cell? ⟨g1,8,none⟩ = some (.int .i64 h.lost):=blk_cell Xg1_3.out 8;have l9 : w3.cell? ⟨g1,9,none⟩ = some (.int .i64 h.stamp):=blk_cell Xg1_3.out 9;clear hb hd))
    go_ret
    exact ⟨by rw [show o = false by rw [HIS.out,isF E3.out (fun G => P0.out G.nb)] <;> simp];rfl,HB_3.out⟩
   have sp0 : ((h.bs.length : Int) != h.cb) = false:=by rw [Classical.not_not.1 p0];exact bne_self_eq_false _
   have P0:=Lib.hid p0
   clear p0
   go_upto_region 3 with (first | (go_at_call 57;refine (spec_l3okConfig.calls h.cb h.cf h.cp h.ce true w1 E1.out).mono ?_;rintro e w2 ⟨rfl,hb⟩;have HB_2:=Lib.hid (below_then HB_1.out HB_1.out.size hb);have Xg1_2:=Lib.hid (blk_below Xg1_1.out hb);have f4 : w2.cell? ⟨g1,4,none⟩ = some (.slice Af h.fs.length cf):=blk_cell Xg1_2.out 4;clear hb) | (go_at_call 58;refine (spec_l3okFilters.calls kf Af cf h.fs true w2 (Kd.C_below RF.out HB_2.out) LF.out E2.out).mono ?_;rintro e w3 ⟨rfl,hd⟩;have hb:=hd.below;have HB_3:=Lib.hid (below_then HB_2.out HB_2.out.size hb);have Xg1_3:=Lib.hid (blk_below Xg1_2.out hb);have l0 : w3.cell? ⟨g1,0,none⟩ = some (.int .i64 h.cb):=blk_cell Xg1_3.out 0;have l1 : w3.cell? ⟨g1,1,none⟩ = some (.int .i64 h.cf):=blk_cell Xg1_3.out 1;have l3 : w3.cell? ⟨g1,3,none⟩ = some (.int .i64 h.ce):=blk_cell Xg1_3.out 3;have l5 : w3.cell? ⟨g1,5,none⟩ = some (.slice Ab h.bs.length cb):=blk_cell Xg1_3.out 5;have l6 : w3.cell? ⟨g1,6,none⟩ = some (.slice Aq h.fr.length cq):=blk_cell Xg1_3.out 6;have l7 : w3.cell? ⟨g1,7,none⟩ = some (.slice Ae h.ev.length ce):=blk_cell Xg1_3.out 7;have l8 : w3.cell? ⟨g1,8,none⟩ = some (.int .i64 h.lost):=blk_cell Xg1_3.out 8;have l9 : w3.cell? ⟨g1,9,none⟩ = some (.int .i64 h.stamp):=blk_cell Xg1_3.out 9;clear hb hd))
   clear y0 y1 y2 y3 sp0
   have y1 : w3.cell? ⟨g1,1,none⟩ = some (.int .i64 h.cf):=blk_cell Xg1_3.out 1
   have y3 : w3.cell? ⟨g1,3,none⟩ = some (.int .i64 h.ce):=blk_cell Xg1_3.out 3
   have y6 : w3.cell? ⟨g1,6,none⟩ = some (.slice Aq h.fr.length cq):=blk_cell Xg1_3.out 6
   have y7 : w3.cell? ⟨g1,7,none⟩ = some (.slice Ae h.ev.length ce):=blk_cell Xg1_3.out 7
   have y8 : w3.cell? ⟨g1,8,none⟩ = some (.int .i64 h.lost):=blk_cell Xg1_3.out 8
   have y9 : w3.cell? ⟨g1,9,none⟩ = some (.int .i64 h.stamp):=blk_cell Xg1_3.out 9
   by_cases q0 : (h.fr.length : Int) > h.cf
   ·have sq0 : decide ((h.fr.length : Int) > h.cf) = true:=decide_eq_true q0
    have Q0:=Lib.hid q0
    clear q0
    go_wp2_with (fail)
    go_ret
    exact ⟨by rw [show o = false by rw [HIS.out,isF E3.out (fun G => by have:=Q0.out;have:=G.nq;omega)] <;> simp];rfl,HB_3.out⟩
   have sq0 : decide ((h.fr.length : Int) > h.cf) = false:=decide_eq_false q0
   have Q0:=Lib.hid q0
   clear q0
   by_cases q1 : (h.ev.length : Int) > h.ce
   ·have sq1 : decide ((h.ev.length : Int) > h.ce) = true:=decide_eq_true q1
    have Q1:=Lib.hid q1
    clear q1
    go_wp2_with (fail)
    go_ret
    exact ⟨by rw [show o = false by rw [HIS.out,isF E3.out (fun G => by have:=Q1.out;have:=G.ne;omega)] <;> simp];rfl,HB_3.out⟩
   have sq1 : decide ((h.ev.length : Int) > h.ce) = false:=decide_eq_false q1
   have Q1:=Lib.hid q1
   clear q1
   by_cases r0 : h.lost < 0
   ·have sr0 : decide (h.lost < 0) = true:=decide_eq_true r0
    have R0:=Lib.hid r0
    clear r0
    go_wp2_with (fail)
    go_ret
    exact ⟨by rw [show o = false by rw [HIS.out,show decide (0 ≤ h.lost) = false from decide_eq_false (by have:=R0.out;omega)] <;> simp];rfl,HB_3.out⟩
   have sr0 : decide (h.lost < 0) = false:=decide_eq_false r0
   have R0:=Lib.hid r0
   clear r0
   by_cases r1 : h.lost > 100000
   ·have sr1 : decide (h.lost > 100000) = true:=decide_eq_true r1
    have R1:=Lib.hid r1
    clear r1
    go_wp2_with (fail)
    go_ret
    exact ⟨by rw [show o = false by rw [HIS.out,show decide (h.lost ≤ 100000) = false from decide_eq_false (by have:=R1.out;omega)] <;> simp];rfl,HB_3.out⟩
   have sr1 : decide (h.lost > 100000) = false:=decide_eq_false r1
   have R1:=Lib.hid r1
   clear r1
   by_cases r2 : h.stamp < 0
   ·have sr2 : decide (h.stamp < 0) = true:=decide_eq_true r2
    have R2:=Lib.hid r2
    clear r2
    go_wp2_with (fail)
    go_ret
    exact ⟨by rw [show o = false by rw [HIS.out,show decide (0 ≤ h.stamp) = false from decide_eq_false (by have:=R2.out;omega)] <;> simp];rfl,HB_3.out⟩
   have sr2 : decide (h.stamp < 0) = false:=decide_eq_false r2
   have R2:=Lib.hid r2
   clear r2
   by_cases r3 : h.stamp > 1000000
   ·have sr3 : decide (h.stamp > 1000000) = true:=decide_eq_true r3
    have R3:=Lib.hid r3
    clear r3
    go_wp2_with (fail)
    go_ret
    exact ⟨by rw [show o = false by rw [HIS.out,show decide (h.stamp ≤ 1000000) = false from decide_eq_false (by have:=R3.out;omega)] <;> simp];rfl,HB_3.out⟩
   have sr3 : decide (h.stamp > 1000000) = false:=decide_eq_false r3
   have R3:=Lib.hid r3
   clear r3
   go_wp2_with (fail)
   clear y1 y3 y6 y7 y8 y9 sq0 sq1 sr0 sr1 sr2 sr3
   go_loopw [3] (fun v3 wr => ∃ i : Nat,i ≤ h.fr.length ∧ v3 = .int .i64 i ∧ Aside0 (∀ j : Nat,j < i → valF (rd_T45 h.fr (j : Int)) = true) ∧ Aside0 (wr.heap[g1]? = some (.cells ⟨hostC h (.slice Af h.fs.length cf) (.slice Ab h.bs.length cb) (.slice Aq h.fr.length cq) (.slice Ae h.ev.length ce)⟩ 32 (0,0))) ∧ Aside0 (Below w.heap.size w wr)) (fun v3 _ => h.fr.length - (intOf v3).toNat)
   case atStart => exact ⟨0,Nat.zero_le _,rfl,⟨fun j hj => absurd hj (Nat.not_lt_zero _)⟩,⟨Xg1_3.out⟩,⟨HB_3.out⟩⟩
   case round =>
    clear Xg1_3 HB_3
    obtain ⟨i,hi,rfl,HF,HX,HB⟩:=hrel
    have y6 : wr.cell? ⟨g1,6,none⟩ = some (.slice Aq h.fr.length cq):=blk_cell HX.out 6
    by_cases hlt : i < h.fr.length
    ·have b2 : decide ((i : Int) < (h.fr.length : Int)) = true:=decide_eq_true (by omega)
     have p5 : (0 ≤ (i : Int)) = True:=eq_true (by omega)
     have q5 : ((i : Int) < (h.fr.length : Int)) = True:=eq_true (by omega)
     have qn : (i < h.fr.length) = True:=eq_true hlt
     have hn : wrap64 ((i : Int) + 1) = (i : Int) + 1:=by have:=SM.out.l3;unfold wrap64;omega
     have HLT:=Lib.hid hlt
     have HI:=Lib.hid hi
     have HN:=Lib.hid hn
     obtain ⟨ad,A8,c8,ea,k0,k1,k2,k3,k4,l8,g8⟩:=at_T45 (Kd.C_below RQ.out HB.out) (i : Int) (by omega) (by omega)
     subst ea
     clear hlt hi
     rw [Int.toNat_natCast] at k0 k1 k2 k3 k4
     obtain ⟨f,hb⟩ : ∃ b,b = rd_T45 h.fr (i : Int):=⟨_,rfl⟩
     rw [← hb] at k0 k1 k2 k3 k4 l8 g8
     have HBX : Hid (f = rd_T45 h.fr (i : Int)):=Lib.hid hb
     have HD8 : Hid (f.f4.length ≤ 10000000):=Lib.hid (by rw [hb];exact SM.out.d3 _ (List.mem_of_getElem? (getD_at h.fr i z45 HLT.out)))
     have L8:=Lib.hid l8
     have G8:=Lib.hid g8
     clear hb l8 g8
     cases q3 : valF f with
     | false =>
      have Q3:=Lib.hid q3
      clear q3
      go_wp2_with (first | (go_at_call 75;refine (specValid_at f A8 c8 wr false Q3.out G8.out L8.out).mono ?_;rintro e w1 ⟨rfl,hb⟩;have HB_1:=Lib.hid (below_then HB.out HB.out.size hb);have X_1:=Lib.hid (blk_below HX.out hb);clear hb))
      go_ret
      exact ⟨by rw [show o = false by rw [HIS.out,isF E3.out (fun G => by have h1:=G.fr i HLT.out;rw [← HBX.out] at h1;rw [Q3.out] at h1;cases h1)] <;> simp];rfl,HB_1.out⟩
     | true =>
      have Q3:=Lib.hid q3
      clear q3
      go_wp2_with (first | (go_at_call 75;refine (specValid_at f A8 c8 wr true Q3.out G8.out L8.out).mono ?_;rintro e w1 ⟨rfl,hb⟩;have HB_1:=Lib.hid (below_then HB.out HB.out.size hb);have X_1:=Lib.hid (blk_below HX.out hb);clear hb))
      go_roundw
      case rel => exact ⟨i + 1,HLT.out,by rw [HN.out];rfl,⟨fun j hj => by by_cases e : j = i;subst e;rw [← HBX.out];exact Q3.out;exact HF.out j (by omega)⟩,⟨X_1.out⟩,⟨HB_1.out⟩⟩
      case measure => rw [HN.out];have:=HLT.out;simp [intOf];omega
    ·have hii : i = h.fr.length:=by omega
     subst hii
     have b2 : decide ((h.fr.length : Int) < (h.fr.length : Int)) = false:=decide_eq_false (by omega)
     go_wp2_with (fail)
     clear y6 b2 hi
     go_loopw [4] (fun v4 wr => ∃ i : Nat,i ≤ h.ev.length ∧ v4 = .int .i64 i ∧ Aside0 (∀ j : Nat,j < i → evOk (rd_T56 h.ev (j : Int))) ∧ Aside0 (wr.heap[g1]? = some (.cells ⟨hostC h (.slice Af h.fs.length cf) (.slice Ab h.bs.length cb) (.slice Aq h.fr.length cq) (.slice Ae h.ev.length ce)⟩ 32 (0,0))) ∧ Aside0 (Below w.heap.size w wr)) (fun v4 _ => h.ev.length - (intOf v4).toNat)
     case atStart => exact ⟨0,Nat.zero_le _,rfl,⟨fun j hj => absurd hj (Nat.not_lt_zero _)⟩,⟨HX.out⟩,⟨HB.out⟩⟩
     case round =>
      clear HX HB
      obtain ⟨i,hi,rfl,HE,HX,HB⟩:=hrel
      have y7 : wr.cell? ⟨g1,7,none⟩ = some (.slice Ae h.ev.length ce):=blk_cell HX.out 7
      by_cases hlt : i < h.ev.length
      ·have b2 : decide ((i : Int) < (h.ev.length : Int)) = true:=decide_eq_true (by omega)
       have p5 : (0 ≤ (i : Int)) = True:=eq_true (by omega)
       have q5 : ((i : Int) < (h.ev.length : Int)) = True:=eq_true (by omega)
       have qn : (i < h.ev.length) = True:=eq_true hlt
       have hn : wrap64 ((i : Int) + 1) = (i : Int) + 1:=by have:=SM.out.l4;unfold wrap64;omega
       have HLT:=Lib.hid hlt
       have HI:=Lib.hid hi
       have HN:=Lib.hid hn
       obtain ⟨ad,A8,c8,ea,k0,k1,k2,k3,k4,k5,k6,k7,l8,g8⟩:=at_T56 (Kd.C_below RE.out HB.out) (i : Int) (by omega) (by omega)
       subst ea
       clear hlt hi
       rw [Int.toNat_natCast] at k0 k1 k2 k3 k4 k5 k6 k7
       obtain ⟨b,hb⟩ : ∃ b,b = rd_T56 h.ev (i : Int):=⟨_,rfl⟩
       rw [← hb] at k0 k1 k2 k3 k4 k5 k6 k7 l8 g8
       have HBX : Hid (b = rd_T56 h.ev (i : Int)):=Lib.hid hb
       have HD8 : Hid (b.f3.f4.length ≤ 10000000):=Lib.hid (by rw [hb];exact SM.out.d4 _ (List.mem_of_getElem? (getD_at h.ev i z56 HLT.out)))
       have L8:=Lib.hid l8
       have G8:=Lib.hid g8
       clear hb l8 g8
       have HW_0 : Hid (Below wr.heap.size wr wr):=Lib.hid (Below.refl _ _)
       go_upto_region 16 with (first | ((with_reducible refine gate_dst (N:=5) rfl ?_);refine box_event ?hg (N:=5) ?hd (cs := #[.int .i64 0, .int .i64 0, .int .i64 0, .bool false, .int .u32 0, .bool false, .int .i64 0, .slice none 0 0]) (t:=56) ?hr ?_;(case hd => rfl);(case hg => rfl);(case hr => first | (go_simp;done) | (go_simp;rfl));intro gb hg w1 hbox hb;have LO_HB_gb : Hid (w.heap.size ≤ gb):=Lib.hid (by rw [hg];exact HB.out.size);have LO_HW_gb : Hid (wr.heap.size ≤ gb):=Lib.hid (by rw [hg];exact HW_0.out.size);have NE_g1_gb : Hid (g1 ≠ gb):=Lib.hid (fun e => by have h1:=blk_lt HX.out;omega);have HEgb:=Lib.hid hg;have HB_1:=Lib.hid (below_then HB.out HB.out.size hb);have HW_1:=Lib.hid (below_then HW_0.out HW_0.out.size hb);have X_1:=Lib.hid (blk_below HX.out hb);have Xgb_1:=Lib.hid hbox;clear hg hbox hb) | ((with_reducible refine gate_store (t:=56) (p:=5) rfl ?_);refine store_box rfl rfl rfl (g:=gb) (j:=0) (cs := #[.int .i64 0, .int .i64 0, .int .i64 0, .bool false, .int .u32 0, .bool false, .int .i64 0, .slice none 0 0]) (cs':=⟨[.int .i64 b.f0, .int .i64 b.f1, .int .i64 b.f2, .bool b.f3.f0, .int .u32 b.f3.f1, .bool b.f3.f2, .int .i64 b.f3.f3, .slice A8 b.f3.f4.length c8]⟩) (seg := [.int .i64 b.f0, .int .i64 b.f1, .int .i64 b.f2, .bool b.f3.f0, .int .u32 b.f3.f1, .bool b.f3.f2, .int .i64 b.f3.f3, .slice A8 b.f3.f4.length c8]) rfl rfl Xgb_1.out rfl (by kernel_rfl) rfl rfl rfl ?_;intro w2 hx hT;have HB_2:=Lib.hid (hT.below HB_1.out HB_1.out.size (fun k hk => by rw [hk];exact LO_HB_gb.out));have HW_2:=Lib.hid (hT.below HW_1.out HW_1.out.size (fun k hk => by rw [hk];exact LO_HW_gb.out));have X_2:=Lib.hid (hT.blk X_1.out NE_g1_gb.out);have Xgb_2:=Lib.hid hx;clear hx hT))
       clear k0 k1 k2 k3 k4 k5 k6 k7 y7
       have y0 : w2.cell? ⟨gb,0,none⟩ = some (.int .i64 b.f0):=blk_cell Xgb_2.out 0
       have y1 : w2.cell? ⟨gb,1,none⟩ = some (.int .i64 b.f1):=blk_cell Xgb_2.out 1
       have y2 : w2.cell? ⟨gb,2,none⟩ = some (.int .i64 b.f2):=blk_cell Xgb_2.out 2
       have y3 : w2.cell? ⟨gb,3,none⟩ = some (.bool b.f3.f0):=blk_cell Xgb_2.out 3
       have y4 : w2.cell? ⟨gb,4,none⟩ = some (.int .u32 b.f3.f1):=blk_cell Xgb_2.out 4
       have y5 : w2.cell? ⟨gb,5,none⟩ = some (.bool b.f3.f2):=blk_cell Xgb_2.out 5
       have y6 : w2.cell? ⟨gb,6,none⟩ = some (.int .i64 b.f3.f3):=blk_cell Xgb_2.out 6
       have y7 : w2.cell? ⟨gb,7,none⟩ = some (.slice A8 b.f3.f4.length c8):=blk_cell Xgb_2.out 7
       by_cases u0 : b.f0 < 1
       ·have su0 : decide (b.f0 < 1) = true:=decide_eq_true u0
        have U0:=Lib.hid u0
        clear u0
        go_wp2_with (fail)
        go_ret
        exact ⟨by rw [show o = false by rw [HIS.out,isF E3.out (fun G => by have h1:=G.ev i HLT.out;rw [← HBX.out] at h1;obtain ⟨a1,a2,a3,a4,a5,a6,a7⟩:=h1;have:=U0.out;omega)] <;> simp];rfl,HB_2.out⟩
       have su0 : decide (b.f0 < 1) = false:=decide_eq_false u0
       have U0:=Lib.hid u0
       clear u0
       by_cases u1 : b.f0 > 12
       ·have su1 : decide (b.f0 > 12) = true:=decide_eq_true u1
        have U1:=Lib.hid u1
        clear u1
        go_wp2_with (fail)
        go_ret
        exact ⟨by rw [show o = false by rw [HIS.out,isF E3.out (fun G => by have h1:=G.ev i HLT.out;rw [← HBX.out] at h1;obtain ⟨a1,a2,a3,a4,a5,a6,a7⟩:=h1;have:=U1.out;omega)] <;> simp];rfl,HB_2.out⟩
       have su1 : decide (b.f0 > 12) = false:=decide_eq_false u1
       have U1:=Lib.hid u1
       clear u1
       by_cases u2 : b.f1 < 0
       ·have su2 : decide (b.f1 < 0) = true:=decide_eq_true u2
        have U2:=Lib.hid u2
        clear u2
        go_wp2_with (fail)
        go_ret
        exact ⟨by rw [show o = false by rw [HIS.out,isF E3.out (fun G => by have h1:=G.ev i HLT.out;rw [← HBX.out] at h1;obtain ⟨a1,a2,a3,a4,a5,a6,a7⟩:=h1;have:=U2.out;omega)] <;> simp];rfl,HB_2.out⟩
       have su2 : decide (b.f1 < 0) = false:=decide_eq_false u2
       have U2:=Lib.hid u2
       clear u2
       by_cases u3 : b.f1 > 9999
       ·have su3 : decide (b.f1 > 9999) = true:=decide_eq_true u3
        have U3:=Lib.hid u3
        clear u3
        go_wp2_with (fail)
        go_ret
        exact ⟨by rw [show o = false by rw [HIS.out,isF E3.out (fun G => by have h1:=G.ev i HLT.out;rw [← HBX.out] at h1;obtain ⟨a1,a2,a3,a4,a5,a6,a7⟩:=h1;have:=U3.out;omega)] <;> simp];rfl,HB_2.out⟩
       have su3 : decide (b.f1 > 9999) = false:=decide_eq_false u3
       have U3:=Lib.hid u3
       clear u3
       by_cases u4 : b.f2 < 0
       ·have su4 : decide (b.f2 < 0) = true:=decide_eq_true u4
        have U4:=Lib.hid u4
        clear u4
        go_wp2_with (fail)
        go_ret
        exact ⟨by rw [show o = false by rw [HIS.out,isF E3.out (fun G => by have h1:=G.ev i HLT.out;rw [← HBX.out] at h1;obtain ⟨a1,a2,a3,a4,a5,a6,a7⟩:=h1;have:=U4.out;omega)] <;> simp];rfl,HB_2.out⟩
       have su4 : decide (b.f2 < 0) = false:=decide_eq_false u4
       have U4:=Lib.hid u4
       clear u4
       by_cases u5 : b.f2 > 9
       ·have su5 : decide (b.f2 > 9) = true:=decide_eq_true u5
        have U5:=Lib.hid u5
        clear u5
        go_wp2_with (fail)
        go_ret
        exact ⟨by rw [show o = false by rw [HIS.out,isF E3.out (fun G => by have h1:=G.ev i HLT.out;rw [← HBX.out] at h1;obtain ⟨a1,a2,a3,a4,a5,a6,a7⟩:=h1;have:=U5.out;omega)] <;> simp];rfl,HB_2.out⟩
       have su5 : decide (b.f2 > 9) = false:=decide_eq_false u5
       have U5:=Lib.hid u5
       clear u5
       cases q3 : zeroB b.f3 with
       | true =>
        have Q3:=Lib.hid q3
        clear q3
        go_wp2_with (first | (go_at_call 127;refine (specZero_at b.f3 A8 c8 w2 true Q3.out (Kd.C_below G8.out HW_2.out) L8.out).mono ?_;rintro e w3 ⟨rfl,hb⟩;have HB_3:=Lib.hid (below_then HB_2.out HB_2.out.size hb);have HW_3:=Lib.hid (below_then HW_2.out HW_2.out.size hb);have X_3:=Lib.hid (blk_below X_2.out hb);have Xgb_3:=Lib.hid (blk_below Xgb_2.out hb);clear hb))
        go_roundw
        case rel => exact ⟨i + 1,HLT.out,by rw [HN.out];rfl,⟨fun j hj => by by_cases e : j = i;subst e;rw [← HBX.out];exact ⟨by have:=U0.out;omega,by have:=U1.out;omega,by have:=U2.out;omega,by have:=U3.out;omega,by have:=U4.out;omega,by have:=U5.out;omega, .inl Q3.out⟩;exact HE.out j (by omega)⟩,⟨X_3.out⟩,⟨HB_3.out⟩⟩
        case measure => rw [HN.out];have:=HLT.out;simp [intOf];omega
       | false =>
        have Q3:=Lib.hid q3
        clear q3
        cases q4 : valF b.f3 with
        | true =>
         have Q4:=Lib.hid q4
         clear q4
         go_wp2_with (first | (go_at_call 127;refine (specZero_at b.f3 A8 c8 w2 false Q3.out (Kd.C_below G8.out HW_2.out) L8.out).mono ?_;rintro e w3 ⟨rfl,hb⟩;have HB_3:=Lib.hid (below_then HB_2.out HB_2.out.size hb);have HW_3:=Lib.hid (below_then HW_2.out HW_2.out.size hb);have X_3:=Lib.hid (blk_below X_2.out hb);have Xgb_3:=Lib.hid (blk_below Xgb_2.out hb);have x3 : w3.cell? ⟨gb,3,none⟩ = some (.bool b.f3.f0):=blk_cell Xgb_3.out 3;have x4 : w3.cell? ⟨gb,4,none⟩ = some (.int .u32 b.f3.f1):=blk_cell Xgb_3.out 4;have x5 : w3.cell? ⟨gb,5,none⟩ = some (.bool b.f3.f2):=blk_cell Xgb_3.out 5;have x6 : w3.cell? ⟨gb,6,none⟩ = some (.int .i64 b.f3.f3):=blk_cell Xgb_3.out 6;have x7 : w3.cell? ⟨gb,7,none⟩ = some (.slice A8 b.f3.f4.length c8):=blk_cell Xgb_3.out 7;clear hb) | (go_at_call 75;refine (specValid_at b.f3 A8 c8 w3 true Q4.out (Kd.C_below G8.out HW_3.out) L8.out).mono ?_;rintro e w4 ⟨rfl,hb⟩;have HB_4:=Lib.hid (below_then HB_3.out HB_3.out.size hb);have HW_4:=Lib.hid (below_then HW_3.out HW_3.out.size hb);have X_4:=Lib.hid (blk_below X_3.out hb);have Xgb_4:=Lib.hid (blk_below Xgb_3.out hb);clear hb))
         go_roundw
         case rel => exact ⟨i + 1,HLT.out,by rw [HN.out];rfl,⟨fun j hj => by by_cases e : j = i;subst e;rw [← HBX.out];exact ⟨by have:=U0.out;omega,by have:=U1.out;omega,by have:=U2.out;omega,by have:=U3.out;omega,by have:=U4.out;omega,by have:=U5.out;omega, .inr Q4.out⟩;exact HE.out j (by omega)⟩,⟨X_4.out⟩,⟨HB_4.out⟩⟩
         case measure => rw [HN.out];have:=HLT.out;simp [intOf];omega
        | false =>
         have Q4:=Lib.hid q4
         clear q4
         go_wp2_with (first | (go_at_call 127;refine (specZero_at b.f3 A8 c8 w2 false Q3.out (Kd.C_below G8.out HW_2.out) L8.out).mono ?_;rintro e w3 ⟨rfl,hb⟩;have HB_3:=Lib.hid (below_then HB_2.out HB_2.out.size hb);have HW_3:=Lib.hid (below_then HW_2.out HW_2.out.size hb);have X_3:=Lib.hid (blk_below X_2.out hb);have Xgb_3:=Lib.hid (blk_below Xgb_2.out hb);have x3 : w3.cell? ⟨gb,3,none⟩ = some (.bool b.f3.f0):=blk_cell Xgb_3.out 3;have x4 : w3.cell? ⟨gb,4,none⟩ = some (.int .u32 b.f3.f1):=blk_cell Xgb_3.out 4;have x5 : w3.cell? ⟨gb,5,none⟩ = some (.bool b.f3.f2):=blk_cell Xgb_3.out 5;have x6 : w3.cell? ⟨gb,6,none⟩ = some (.int .i64 b.f3.f3):=blk_cell Xgb_3.out 6;have x7 : w3.cell? ⟨gb,7,none⟩ = some (.slice A8 b.f3.f4.length c8):=blk_cell Xgb_3.out 7;clear hb) | (go_at_call 75;refine (specValid_at b.f3 A8 c8 w3 false Q4.out (Kd.C_below G8.out HW_3.out) L8.out).mono ?_;rintro e w4 ⟨rfl,hb⟩;have HB_4:=Lib.hid (below_then HB_3.out HB_3.out.size hb);have HW_4:=Lib.hid (below_then HW_3.out HW_3.out.size hb);have X_4:=Lib.hid (blk_below X_3.out hb);have Xgb_4:=Lib.hid (blk_below Xgb_3.out hb);clear hb))
         go_ret
         exact ⟨by rw [show o = false by rw [HIS.out,isF E3.out (fun G => by have h1:=G.ev i HLT.out;rw [← HBX.out] at h1;obtain ⟨a1,a2,a3,a4,a5,a6,a7⟩:=h1;rcases a7 with a7 | a7;rw [Q3.out] at a7;cases a7;rw [Q4.out] at a7;cases a7)] <;> simp];rfl,HB_4.out⟩
      ·have hii : i = h.ev.length:=by omega
       subst hii
       have b2 : decide ((h.ev.length : Int) < (h.ev.length : Int)) = false:=decide_eq_false (by omega)
       go_wp2_with (first | ((with_reducible refine gate_dst (N:=123) rfl ?_);refine load_all rfl rfl (g:=g1) rfl HX.out hu32.out (by kernel_rfl) ?_) | (go_at_call 128;refine (specOkBoxes_v h o4 E4.out wr _ (RR.out.below HB.out) SM.out).mono ?_;rintro e w1 ⟨rfl,hb⟩;have HB_1:=Lib.hid (below_then HB.out HB.out.size hb);have X_1:=Lib.hid (blk_below HX.out hb);clear hb))
       go_ret
       have G : GoodL h:=⟨Classical.not_not.1 P0.out,by have:=Q0.out;omega,by have:=Q1.out;omega,HF.out,HE.out⟩
       have e : o = o4:=by rw [HIS.out,E3.out.2 G,show decide (0 ≤ h.lost) = true from decide_eq_true (by have:=R0.out;omega),show decide (h.lost ≤ 100000) = true from decide_eq_true (by have:=R1.out;omega),show decide (0 ≤ h.stamp) = true from decide_eq_true (by have:=R2.out;omega),show decide (h.stamp ≤ 1000000) = true from decide_eq_true (by have:=R3.out;omega)];simp
       exact ⟨by rw [e];rfl,HB_1.out⟩
set_option maxRecDepth 100000 in
set_option maxHeartbeats 4000000 in
theorem drain_v (w0 w : World) (p m : Nat) (h : HV) (l1 l2 : Int) (vf vb vq ve : Value) (f : Int → Option Int) (n : Nat) (H : SideP w0 w p m h l1 l2 vf vb vq ve f n) :
  Calls Try.prog 82 #[.pointer (some ⟨p,0,none⟩)] w fun e w' => ∃ Ae ce,e = .returned (.slice Ae h.ev.length ce) ∧ SideP w0 w' p m { h with ev := [] } l1 l2 vf vb vq (.slice none 0 0) f n ∧ Kd.S k56 56 w' w0.heap.size (fun k => k < w'.heap.size) (.slice Ae h.ev.length ce) h.ev:=by
 have HS_0:=Lib.hid H
 obtain ⟨o,HRr⟩:=H.rows
 obtain ⟨Ae,ce,rfl⟩:=Kd.S_slice HRr.e
 have HRo:=Lib.hid HRr
 have y10 : w.cell? ⟨p,10,none⟩ = some (.slice Ae h.ev.length ce):=blk_cell H.blk 10
 clear H HRr
 go_enter Try.func82,Try.ntmps82
 go_wp2_with (first | ((with_reducible refine gate_store (t:=30) (p:=12) rfl ?_);refine store_box rfl rfl rfl (g:=p) (j:=10) (cs:=(sideP h m l1 l2 vf vb vq (.slice Ae h.ev.length ce))) (cs':=(sideP { h with ev := [] } m l1 l2 vf vb vq (.slice none 0 0))) (T:=128) (u := .slice none 0 0) (seg := [.slice none 0 0]) rfl rfl HS_0.out.blk rfl (by kernel_rfl) rfl rfl rfl ?_;intro w1 hx hT;have HS_1:=Lib.hid (HS_0.out.newE (l := []) (x' := { h with ev := [] }) HRo.out (Below.refl _ _) (hT.mono (fun k hk => .inl hk)) hx rfl (Kd.S_nil _ _ _ _ _));have HE_1:=Lib.hid (Kd.S_mono (S_tch (S_lt_own HRo.out.e) HS_0.out.blk (by decide) hT) (ok':=fun k => k < w1.heap.size) (fun k hk => Nat.lt_of_lt_of_le hk.2 hT.size));clear hx hT))
 go_ret
 exact ⟨Ae,ce,rfl,HS_1.out,HE_1.out⟩
set_option maxRecDepth 100000 in
set_option maxHeartbeats 4000000 in
theorem implDrain_v (h : HV) (o o1 o2 o3 o4 : Bool) (hO : OkH h o o1 o2 o3 o4) (V : HV) (hV : V = if o = true then { h with ev := [] } else hv0) (E : List S56) (hE : E = if o = true then h.ev else []) (w : World) (C : List Value) (hR : HRead w h C) (hS : HSm h) :
  Calls Try.prog 30 #[.agg ⟨C⟩] w fun e w' => ∃ C' Ae ce mid,e = .returned (.tuple #[.agg ⟨C'⟩, .slice Ae E.length ce]) ∧ HOwn w' w.heap.size (fun k => mid ≤ k) V C' ∧ Kd.S k56 56 w' w.heap.size (fun k => k < mid) (.slice Ae E.length ce) E ∧ Below w.heap.size w w':=by
 have RR:=Lib.hid hR
 have HI : Hid ((Try.prog.info? 32).map (·.size) = some C.length):=Lib.hid (by rw [hR.len];kernel_rfl)
 have SM:=Lib.hid hS
 have HOK:=Lib.hid hO
 have HB_0 : Hid (Below w.heap.size w w):=Lib.hid (Below.refl _ _)
 have hu:=Lib.hid Try.underlying32
 clear hR hS hO
 cases o with
 | false =>
  have hV' : V = hv0:=hV
  have hE' : E = []:=hE
  subst hV'
  subst hE'
  clear hV hE
  go_enter Try.func30,Try.ntmps30
  go_upto_region 1 with (first | ((with_reducible refine gate_dst (N:=1) rfl ?_);refine box_event ?hg (N:=1) ?hd (cs:=⟨C⟩) (t:=32) ?hr ?_;(case hd => rfl);(case hg => rfl);(case hr => first | (go_simp;done) | (go_simp;rfl));intro g1 hg w1 hbox hb;have LO_HB_g1 : Hid (w.heap.size ≤ g1):=Lib.hid (by rw [hg];exact HB_0.out.size);have HEg1:=Lib.hid hg;have HB_1:=Lib.hid (below_then HB_0.out HB_0.out.size hb);have Xg1_1:=Lib.hid hbox;clear hg hbox hb) | ((with_reducible refine gate_dst (N:=2) rfl ?_);refine box_event ?hg (N:=2) ?hd (cs:=⟨[.int .i64 0, .int .i64 0, .int .i64 0, .int .i64 0, .slice none 0 0, .slice none 0 0, .slice none 0 0, .slice none 0 0, .int .i64 0, .int .i64 0]⟩) (t:=32) ?hr ?_;(case hd => rfl);(case hg => rfl);(case hr => first | (go_simp;done) | (go_simp;rfl));intro g2 hg w2 hbox hb;have LO_HB_g2 : Hid (w.heap.size ≤ g2):=Lib.hid (by rw [hg];exact HB_1.out.size);have NE_g1_g2 : Hid (g1 ≠ g2):=Lib.hid (fun e => by have h1:=blk_lt Xg1_1.out;omega);have HEg2:=Lib.hid hg;have HB_2:=Lib.hid (below_then HB_1.out HB_1.out.size hb);have Xg1_2:=Lib.hid (blk_below Xg1_1.out hb);have Xg2_2:=Lib.hid hbox;clear hg hbox hb))
  go_wp2_with (first | ((with_reducible refine gate_dst (N:=6) rfl ?_);refine load_all rfl rfl (g:=g1) rfl Xg1_2.out hu.out HI.out ?_) | (go_at_call 76;refine (goodHost_v h false o1 o2 o3 o4 HOK.out w2 C (RR.out.below HB_2.out) SM.out).mono ?_;rintro e w3 ⟨rfl,hb⟩;have HB_3:=Lib.hid (below_then HB_2.out HB_2.out.size hb);have Xg1_3:=Lib.hid (blk_below Xg1_2.out hb);have Xg2_3:=Lib.hid (blk_below Xg2_2.out hb);clear hb) | ((with_reducible refine gate_store (t:=32) (p:=2) rfl ?_);refine store_all rfl rfl rfl (g:=g2) (C := [.int .i64 0, .int .i64 0, .int .i64 0, .int .i64 0, .slice none 0 0, .slice none 0 0, .slice none 0 0, .slice none 0 0, .int .i64 0, .int .i64 0]) rfl rfl Xg2_3.out (by kernel_rfl) (by decide) rfl ?_;intro wz hx hT;have HZX:=Lib.hid hx;have HZT:=Lib.hid hT;have HZB:=Lib.hid (hT.below HB_3.out HB_3.out.size (fun k hk => by rw [hk];exact LO_HB_g2.out));clear hx hT))
  refine bodyPost_ret (results_ct rfl _ _ g2 32 ⟨[.int .i64 0, .int .i64 0, .int .i64 0, .int .i64 0, .slice none 0 0, .slice none 0 0, .slice none 0 0, .slice none 0 0, .int .i64 0, .int .i64 0]⟩ (0,0) _ rfl HZX.out Try.underlying32 rfl (by kernel_rfl)) rfl ?_
  exact ⟨_,none,0,w.heap.size,rfl,⟨_,_,_,_,fun _ => 0,rfl,Kd.R_nil _ _ _ _ _,Kd.S_nil _ _ _ _ _,Kd.S_nil _ _ _ _ _,Kd.S_nil _ _ _ _ _⟩,Kd.S_nil _ _ _ _ _,HZB.out⟩
 | true =>
  have hV' : V = { h with ev := [] }:=hV
  have hE' : E = h.ev:=hE
  subst hV'
  subst hE'
  clear hV hE
  have G:=Lib.hid HOK.out.good
  go_enter Try.func30,Try.ntmps30
  go_upto_region 1 with (first | ((with_reducible refine gate_dst (N:=1) rfl ?_);refine box_event ?hg (N:=1) ?hd (cs:=⟨C⟩) (t:=32) ?hr ?_;(case hd => rfl);(case hg => rfl);(case hr => first | (go_simp;done) | (go_simp;rfl));intro g1 hg w1 hbox hb;have LO_HB_g1 : Hid (w.heap.size ≤ g1):=Lib.hid (by rw [hg];exact HB_0.out.size);have HEg1:=Lib.hid hg;have HB_1:=Lib.hid (below_then HB_0.out HB_0.out.size hb);have Xg1_1:=Lib.hid hbox;clear hg hbox hb) | ((with_reducible refine gate_dst (N:=2) rfl ?_);refine box_event ?hg (N:=2) ?hd (cs:=⟨[.int .i64 0, .int .i64 0, .int .i64 0, .int .i64 0, .slice none 0 0, .slice none 0 0, .slice none 0 0, .slice none 0 0, .int .i64 0, .int .i64 0]⟩) (t:=32) ?hr ?_;(case hd => rfl);(case hg => rfl);(case hr => first | (go_simp;done) | (go_simp;rfl));intro g2 hg w2 hbox hb;have LO_HB_g2 : Hid (w.heap.size ≤ g2):=Lib.hid (by rw [hg];exact HB_1.out.size);have NE_g1_g2 : Hid (g1 ≠ g2):=Lib.hid (fun e => by have h1:=blk_lt Xg1_1.out;omega);have HEg2:=Lib.hid hg;have HB_2:=Lib.hid (below_then HB_1.out HB_1.out.size hb);have Xg1_2:=Lib.hid (blk_below Xg1_1.out hb);have Xg2_2:=Lib.hid hbox;clear hg hbox hb))
  go_upto_region 3 with (first | ((with_reducible refine gate_dst (N:=6) rfl ?_);refine load_all rfl rfl (g:=g1) rfl Xg1_2.out hu.out HI.out ?_) | (go_at_call 76;refine (goodHost_v h true o1 o2 o3 o4 HOK.out w2 C (RR.out.below HB_2.out) SM.out).mono ?_;rintro e w3 ⟨rfl,hb⟩;have HB_3:=Lib.hid (below_then HB_2.out HB_2.out.size hb);have Xg1_3:=Lib.hid (blk_below Xg1_2.out hb);have Xg2_3:=Lib.hid (blk_below Xg2_2.out hb);clear hb))
  go_upto_region 4 with (first | ((with_reducible refine gate_dst (N:=10) rfl ?_);refine load_all rfl rfl (g:=g1) rfl Xg1_3.out hu.out HI.out ?_) | (go_at_call 63;refine (open_v w3 h C (RR.out.below HB_3.out) G.out.fits).mono ?_;rintro e w4 ⟨p,m,vf,vb,vq,ve,rfl,hs⟩;have hb:=hs.bel;have HS0:=Lib.hid hs;clear hs;have HB_4:=Lib.hid (below_then HB_3.out HB_3.out.size hb);have Xg1_4:=Lib.hid (blk_below Xg1_3.out hb);have Xg2_4:=Lib.hid (blk_below Xg2_3.out hb);clear hb))
  go_upto_region 5 with (first | (go_at_call 82;refine (drain_v w3 w4 p m h h.cf h.ce vf vb vq ve _ _ HS0.out).mono ?_;rintro e w5 ⟨Ae,ce,rfl,hs,he⟩;have HS1:=Lib.hid hs;have HE1:=Lib.hid he;have HB_5:=Lib.hid (below_then HB_3.out HB_3.out.size hs.bel);have Xg2_5:=Lib.hid (blk_below Xg2_3.out hs.bel);clear hs he))
  obtain ⟨oz,hoz⟩:=HS1.out.rows
  have HRD:=Lib.hid hoz.read
  clear hoz
  have HSV : Hid (HSmall { h with ev := [] }):=Lib.hid (by have q:=G.out.small;exact ⟨q.l1,q.l2,q.l3,Nat.zero_le _,q.d2,q.d3,fun y hy => by cases hy⟩)
  go_wp2_with (first | (go_at_call 64;refine (close_v w5 p m { h with ev := [] } _ _ _ _ _ _ HS1.out.blk HRD.out HSV.out).mono ?_;rintro e w6 ⟨C',rfl,ho,hb⟩;have HO0:=Lib.hid ho.bound;have HCL:=Lib.hid ho.read.len;have HC1:=Lib.hid (HRead.one ho.read);have HE2:=Lib.hid (Kd.S_below HE1.out hb);have HB_6:=Lib.hid (below_then HB_5.out HB_5.out.size hb);have Xg2_6:=Lib.hid (blk_below Xg2_5.out hb);clear ho hb) | ((with_reducible refine gate_store (t:=32) (p:=2) rfl ?_);refine store_all rfl rfl rfl (g:=g2) (C:=C') rfl rfl Xg2_6.out (by rw [HCL.out];kernel_rfl) HC1.out HCL.out.symm ?_;intro wz hx hT;have HZX:=Lib.hid hx;have HZO:=Lib.hid (HO0.out.tch hT (fun k hk e => by have h1:=hk.2.1;have h2:=blk_lt Xg2_5.out;omega));have HZE:=Lib.hid (S_tch HE2.out Xg2_6.out (by decide) hT);have HZB:=Lib.hid (hT.below HB_6.out HB_6.out.size (fun k hk => by rw [hk];exact LO_HB_g2.out));clear hx hT))
  refine bodyPost_ret (results_ct rfl _ _ g2 32 ⟨C'⟩ (0,0) _ rfl HZX.out Try.underlying32 rfl (by rw [show (⟨C'⟩ : Array Value).size = 10 from HCL.out];kernel_rfl)) rfl ?_
  exact ⟨C',Ae,ce,w5.heap.size,rfl,(HZO.out.lower HB_5.out.size).mono (fun k hk => hk.2.1),Kd.S_lower HZE.out HB_3.out.size,HZB.out⟩
set_option maxRecDepth 100000 in
set_option maxHeartbeats 4000000 in
theorem specDrain_v (h : HV) (o o1 o2 o3 o4 : Bool) (hO : OkH h o o1 o2 o3 o4) (V : HV) (hV : V = if o = true then { h with ev := [] } else hv0) (E : List S56) (hE : E = if o = true then h.ev else []) (w : World) (C : List Value) (hR : HRead w h C) (hS : HSm h) :
  Calls Try.prog 43 #[.agg ⟨C⟩] w fun e w' => ∃ C' Ae ce,e = .returned (.tuple #[.agg ⟨C'⟩, .slice Ae E.length ce]) ∧ HRead w' V C' ∧ (k56).C w' Ae E.length E ∧ E.length ≤ ce ∧ Below w.heap.size w w':=by
 have RR:=Lib.hid hR
 have HI : Hid ((Try.prog.info? 32).map (·.size) = some C.length):=Lib.hid (by rw [hR.len];kernel_rfl)
 have SM:=Lib.hid hS
 have HOK:=Lib.hid hO
 have HB_0 : Hid (Below w.heap.size w w):=Lib.hid (Below.refl _ _)
 have hu:=Lib.hid Try.underlying32
 clear hS hO
 obtain ⟨Af,cf,Ab,cb,Aq,cq,Ax,cx,hC,_,_,_,_,_,_,re,le⟩:=hR
 have RE:=Lib.hid re
 have LE:=Lib.hid le
 have HC7 : Hid (C = hostC h (.slice Af h.fs.length cf) (.slice Ab h.bs.length cb) (.slice Aq h.fr.length cq) (.slice Ax h.ev.length cx)):=Lib.hid hC
 clear re le hC
 cases o with
 | false =>
  have hV' : V = hv0:=hV
  have hE' : E = []:=hE
  subst hV'
  subst hE'
  clear hV hE
  go_enter Try.func43,Try.ntmps43
  go_upto_region 1 with (first | ((with_reducible refine gate_dst (N:=1) rfl ?_);refine box_event ?hg (N:=1) ?hd (cs:=⟨C⟩) (t:=32) ?hr ?_;(case hd => rfl);(case hg => rfl);(case hr => first | (go_simp;done) | (go_simp;rfl));intro g1 hg w1 hbox hb;have LO_HB_g1 : Hid (w.heap.size ≤ g1):=Lib.hid (by rw [hg];exact HB_0.out.size);have HEg1:=Lib.hid hg;have HB_1:=Lib.hid (below_then HB_0.out HB_0.out.size hb);have Xg1_1:=Lib.hid hbox;clear hg hbox hb) | ((with_reducible refine gate_dst (N:=2) rfl ?_);refine box_event ?hg (N:=2) ?hd (cs:=⟨[.int .i64 0, .int .i64 0, .int .i64 0, .int .i64 0, .slice none 0 0, .slice none 0 0, .slice none 0 0, .slice none 0 0, .int .i64 0, .int .i64 0]⟩) (t:=32) ?hr ?_;(case hd => rfl);(case hg => rfl);(case hr => first | (go_simp;done) | (go_simp;rfl));intro g2 hg w2 hbox hb;have LO_HB_g2 : Hid (w.heap.size ≤ g2):=Lib.hid (by rw [hg];exact HB_1.out.size);have NE_g1_g2 : Hid (g1 ≠ g2):=Lib.hid (fun e => by have h1:=blk_lt Xg1_1.out;omega);have HEg2:=Lib.hid hg;have HB_2:=Lib.hid (below_then HB_1.out HB_1.out.size hb);have Xg1_2:=Lib.hid (blk_below Xg1_1.out hb);have Xg2_2:=Lib.hid hbox;clear hg hbox hb))
  go_wp2_with (first | ((with_reducible refine gate_dst (N:=5) rfl ?_);refine load_all rfl rfl (g:=g1) rfl Xg1_2.out hu.out HI.out ?_) | (go_at_call 86;refine (specOk_v h false o1 o2 o3 o4 HOK.out w2 C (RR.out.below HB_2.out) SM.out).mono ?_;rintro e w3 ⟨rfl,hb⟩;have HB_3:=Lib.hid (below_then HB_2.out HB_2.out.size hb);have Xg1_3:=Lib.hid (blk_below Xg1_2.out hb);have Xg2_3:=Lib.hid (blk_below Xg2_2.out hb);clear hb) | ((with_reducible refine gate_dst (N:=9) rfl ?_);refine lit_event (cs := #[]) (T:=56) (n:=0) rfl ?hr ?_;(case hr => first | (go_simp;done) | (go_simp;rfl));rintro gl hgl w4 ⟨hl,hb⟩;have HGL:=Lib.hid hgl;have HLT0:=Lib.hid hl;have HB_4:=Lib.hid (below_then HB_3.out HB_3.out.size hb);have Xg1_4:=Lib.hid (blk_below Xg1_3.out hb);have Xg2_4:=Lib.hid (blk_below Xg2_3.out hb);clear hgl hl hb) | ((with_reducible refine gate_store (t:=32) (p:=2) rfl ?_);refine store_all rfl rfl rfl (g:=g2) (C := [.int .i64 0, .int .i64 0, .int .i64 0, .int .i64 0, .slice none 0 0, .slice none 0 0, .slice none 0 0, .slice none 0 0, .int .i64 0, .int .i64 0]) rfl rfl Xg2_4.out (by kernel_rfl) (by decide) rfl ?_;intro wz hx hT;have HZX:=Lib.hid hx;have HZT:=Lib.hid hT;have HZB:=Lib.hid (hT.below HB_4.out HB_4.out.size (fun k hk => by rw [hk];exact LO_HB_g2.out));clear hx hT))
  refine bodyPost_ret (results_ct rfl _ _ g2 32 ⟨[.int .i64 0, .int .i64 0, .int .i64 0, .int .i64 0, .slice none 0 0, .slice none 0 0, .slice none 0 0, .slice none 0 0, .int .i64 0, .int .i64 0]⟩ (0,0) _ rfl HZX.out Try.underlying32 rfl (by kernel_rfl)) rfl ?_
  exact ⟨_,some ⟨gl,0,none⟩,0,rfl,(show HOwn wz 0 (fun _ => True) hv0 _ from ⟨_,_,_,_,fun _ => 0,rfl,Kd.R_nil _ _ _ _ _,Kd.S_nil _ _ _ _ _,Kd.S_nil _ _ _ _ _,Kd.S_nil _ _ _ _ _⟩).read,(Kd.S_reads' (S_lit00 (d:=k56) (base:=0) (ok:=fun _ => True) (HZT.out.blk HLT0.out (fun e => by have h1:=blk_lt Xg2_3.out;have h2:=HGL.out;omega)) ⟨Nat.zero_le _,trivial⟩)).2.2,Nat.le_refl _,HZB.out⟩
 | true =>
  have hV' : V = { h with ev := [] }:=hV
  have hE' : E = h.ev:=hE
  subst hV'
  subst hE'
  clear hV hE
  go_enter Try.func43,Try.ntmps43
  go_upto_region 1 with (first | ((with_reducible refine gate_dst (N:=1) rfl ?_);refine box_event ?hg (N:=1) ?hd (cs:=⟨C⟩) (t:=32) ?hr ?_;(case hd => rfl);(case hg => rfl);(case hr => first | (go_simp;done) | (go_simp;rfl));intro g1 hg w1 hbox hb;have LO_HB_g1 : Hid (w.heap.size ≤ g1):=Lib.hid (by rw [hg];exact HB_0.out.size);have HEg1:=Lib.hid hg;have HB_1:=Lib.hid (below_then HB_0.out HB_0.out.size hb);have Xg1_1:=Lib.hid hbox;clear hg hbox hb) | ((with_reducible refine gate_dst (N:=2) rfl ?_);refine box_event ?hg (N:=2) ?hd (cs:=⟨[.int .i64 0, .int .i64 0, .int .i64 0, .int .i64 0, .slice none 0 0, .slice none 0 0, .slice none 0 0, .slice none 0 0, .int .i64 0, .int .i64 0]⟩) (t:=32) ?hr ?_;(case hd => rfl);(case hg => rfl);(case hr => first | (go_simp;done) | (go_simp;rfl));intro g2 hg w2 hbox hb;have LO_HB_g2 : Hid (w.heap.size ≤ g2):=Lib.hid (by rw [hg];exact HB_1.out.size);have NE_g1_g2 : Hid (g1 ≠ g2):=Lib.hid (fun e => by have h1:=blk_lt Xg1_1.out;omega);have HEg2:=Lib.hid hg;have HB_2:=Lib.hid (below_then HB_1.out HB_1.out.size hb);have Xg1_2:=Lib.hid (blk_below Xg1_1.out hb);have Xg2_2:=Lib.hid hbox;clear hg hbox hb))
  go_upto_region 3 with (first | ((with_reducible refine gate_dst (N:=5) rfl ?_);refine load_all rfl rfl (g:=g1) rfl Xg1_2.out hu.out HI.out ?_) | (go_at_call 86;refine (specOk_v h true o1 o2 o3 o4 HOK.out w2 C (RR.out.below HB_2.out) SM.out).mono ?_;rintro e w3 ⟨rfl,hb⟩;have HB_3:=Lib.hid (below_then HB_2.out HB_2.out.size hb);have Xg1_3:=Lib.hid (blk_below Xg1_2.out hb);have Xg2_3:=Lib.hid (blk_below Xg2_2.out hb);clear hb))
  have HC_3 : Hid (Below w3.heap.size w3 w3):=Lib.hid (Below.refl _ _)
  go_upto_region 4 with (first | ((with_reducible refine gate_dst (N:=10) rfl ?_);refine load_all rfl rfl (g:=g1) rfl Xg1_3.out hu.out HI.out ?_) | (go_at_call 59;refine (l3copy_v w3 h C (RR.out.below HB_3.out) SM.out).mono ?_;rintro e w4 ⟨C1,rfl,ho,hb⟩;have HO_4:=Lib.hid ho.bound;clear ho;have HB_4:=Lib.hid (below_then HB_3.out HB_3.out.size hb);have Xg1_4:=Lib.hid (blk_below Xg1_3.out hb);have Xg2_4:=Lib.hid (blk_below Xg2_3.out hb);have HC_4:=Lib.hid (below_then HC_3.out HC_3.out.size hb);clear hb) | ((with_reducible refine gate_dst (N:=4) rfl ?_);refine box_event ?hg (N:=4) ?hd (cs:=⟨[.int .i64 0, .int .i64 0, .int .i64 0, .int .i64 0, .slice none 0 0, .slice none 0 0, .slice none 0 0, .slice none 0 0, .int .i64 0, .int .i64 0]⟩) (t:=32) ?hr ?_;(case hd => rfl);(case hg => rfl);(case hr => first | (go_simp;done) | (go_simp;rfl));intro g4 hg w5 hbox hb;have LO_HB_g4 : Hid (w.heap.size ≤ g4):=Lib.hid (by rw [hg];exact HB_4.out.size);have NE_g1_g4 : Hid (g1 ≠ g4):=Lib.hid (fun e => by have h1:=blk_lt Xg1_4.out;omega);have NE_g2_g4 : Hid (g2 ≠ g4):=Lib.hid (fun e => by have h1:=blk_lt Xg2_4.out;omega);have LO_HC_g4 : Hid (w3.heap.size ≤ g4):=Lib.hid (by rw [hg];exact HC_4.out.size);have HEg4:=Lib.hid hg;have HB_5:=Lib.hid (below_then HB_4.out HB_4.out.size hb);have Xg1_5:=Lib.hid (blk_below Xg1_4.out hb);have Xg2_5:=Lib.hid (blk_below Xg2_4.out hb);have HC_5:=Lib.hid (below_then HC_4.out HC_4.out.size hb);have HO_5:=Lib.hid (HO_4.out.below hb);have Xg4_5:=Lib.hid hbox;clear hg hbox hb) | ((with_reducible refine gate_store (t:=32) (p:=4) rfl ?_);refine store_all rfl rfl rfl (g:=g4) (C:=C1) rfl rfl Xg4_5.out (by rw [HO_5.out.read.len];kernel_rfl) (HRead.one HO_5.out.read) HO_5.out.read.len.symm ?_;intro w6 hx hT;have Xg4_6:=Lib.hid hx;have HB_6:=Lib.hid (hT.below HB_5.out HB_5.out.size (fun k hk => by rw [hk];exact LO_HB_g4.out));have Xg1_6:=Lib.hid (hT.blk Xg1_5.out NE_g1_g4.out);have Xg2_6:=Lib.hid (hT.blk Xg2_5.out NE_g2_g4.out);have HC_6:=Lib.hid (hT.below HC_5.out HC_5.out.size (fun k hk => by rw [hk];exact LO_HC_g4.out));have HO_6:=Lib.hid (HO_5.out.tch hT (fun k hk e => by have h1:=hk.2.2.1;have h2:=HEg4.out;omega));clear hx hT))
  obtain ⟨vf,vb,vq,ve,oo,hC1,HRr⟩:=HO_6.out
  have HRo:=Lib.hid HRr
  rw [hC1] at Xg4_6
  clear HRr hC1
  go_upto_region 5 with (first | ((with_reducible refine gate_dst (N:=12) rfl ?_);refine lit_event (cs := #[]) (T:=56) (n:=0) rfl ?hr ?_;(case hr => first | (go_simp;done) | (go_simp;rfl));rintro gl hgl w7 ⟨hl,hb⟩;have HGL:=Lib.hid hgl;have HLT0:=Lib.hid hl;have HB_7:=Lib.hid (below_then HB_6.out HB_6.out.size hb);have Xg1_7:=Lib.hid (blk_below Xg1_6.out hb);have Xg2_7:=Lib.hid (blk_below Xg2_6.out hb);have Xg4_7:=Lib.hid (blk_below Xg4_6.out hb);have H67:=Lib.hid hb;have NGL : Hid (gl ≠ g4):=Lib.hid (fun e => by have h1:=blk_lt Xg4_6.out;omega);clear hgl hl hb) | ((with_reducible refine gate_store (t:=30) (p:=13) rfl ?_);refine store_box rfl rfl rfl (g:=g4) (j:=7) (cs:=⟨hostC h vf vb vq ve⟩) (cs':=⟨hostC { h with ev := [] } vf vb vq (.slice (some ⟨gl,0,none⟩) 0 0)⟩) (T:=32) (seg := [.slice (some ⟨gl,0,none⟩) 0 0]) rfl rfl Xg4_7.out rfl (by kernel_rfl) rfl rfl rfl ?_;intro w8 hx hT;have Xg4_8:=Lib.hid hx;have HB_8:=Lib.hid (hT.below HB_7.out HB_7.out.size (fun k hk => by rw [hk];exact LO_HB_g4.out));have Xg1_8:=Lib.hid (hT.blk Xg1_7.out NE_g1_g4.out);have Xg2_8:=Lib.hid (hT.blk Xg2_7.out NE_g2_g4.out);obtain ⟨o9,_,hq⟩:=HRows.newE (w1:=w8) (ve':=(.slice (some ⟨gl,0,none⟩) 0 0)) (l := []) HRo.out.bound (fun k hk hn hl => by rw [hT.block (Nat.lt_of_lt_of_le hl H67.out.size) (fun e => (hk.2.ne Xg4_6.out (by decide)) e),H67.out.block k hl]) (S_lit00 (hT.blk HLT0.out NGL.out) ⟨by rw [HGL.out];exact HC_6.out.size, .inr (by rw [HGL.out];exact Nat.le_refl _)⟩);have HQ8:=Lib.hid hq;clear hq;clear hx hT))
  obtain ⟨wd,hwd⟩ : ∃ wd,wd = w8.drew:=⟨_,rfl⟩
  have hbd : Below w8.heap.size w8 wd:=by rw [hwd];exact below_drew (Below.refl _ _)
  have HBd:=Lib.hid (below_then HB_8.out HB_8.out.size hbd)
  have X1d:=Lib.hid (blk_below Xg1_8.out hbd)
  have X2d:=Lib.hid (blk_below Xg2_8.out hbd)
  have X4d:=Lib.hid (blk_below Xg4_8.out hbd)
  have HVd:=Lib.hid (HQ8.out.below hbd)
  clear hbd
  refine start_ (n:=6) (S:=fun w' : World => w'.heap[g4]? = some (.cells ⟨hostC { h with ev := [] } vf vb vq (.slice (some ⟨gl,0,none⟩) 0 0)⟩ 32 (0,0)) ∧ w'.heap[g1]? = some (.cells ⟨C⟩ 32 (0,0))) (ds := [4]) #[false,false,false,false,false,false] (by kernel_rfl) rfl rfl (hwd ▸ ⟨X4d.out,X1d.out⟩) (fun hHeld => ?_)
  rw [← hwd] at hHeld ⊢
  clear hwd
  refine take_ (i:=0) (N:=some 14) (a' := ?_) #[true,false,false,false,false,false] rfl rfl (by kernel_rfl) (fun _ _ _ h => h) (yieldsIf_load_mid (by rfl) _ _ rfl g4 0 rfl (hostC { h with ev := [] } vf vb vq (.slice (some ⟨gl,0,none⟩) 0 0)) _ (fun w h => range_all h.1) hu.out rfl (by kernel_rfl)) hHeld ?_ ?_
  rotate_left
  ·simp only [Act.put,List.setIfInBounds_toArray,List.set_cons_zero,List.set_cons_succ,i64_w,i32_w]
   rfl
  refine pure_ (i:=1) (N:=some 15) (v := ?_) (a' := ?_) #[true,true,false,false,false,false] rfl rfl (by kernel_rfl) (fun _ _ _ h => h) (Or.inl ⟨by rfl, ?_⟩) ?_ ?_
  rotate_left
  ·intro w'
   go_simp
   with_reducible rfl
  rotate_left
  ·simp only [Act.put,List.setIfInBounds_toArray,List.set_cons_zero,List.set_cons_succ,i64_w,i32_w]
   rfl
  refine take_ (i:=2) (N:=some 16) (v := ?_) (a' := ?_) #[true,true,true,false,false,false] rfl rfl (by kernel_rfl) (fun _ _ _ h => h) (Or.inl ⟨by rfl, ?_⟩) hHeld ?_ ?_
  rotate_left
  ·rintro w' ⟨s0,s1⟩
   have e0 : w'.cell? ⟨g1,7,none⟩ = some (.slice Ax h.ev.length cx):=by have h1:=blk_cell s1 7;rw [HC7.out] at h1;exact h1
   go_simp
   with_reducible rfl
  rotate_left
  ·simp only [Act.put,List.setIfInBounds_toArray,List.set_cons_zero,List.set_cons_succ,i64_w,i32_w]
   rfl
  refine one_ (i:=3) (N:=some 17) #[true,true,true,true,false,false] rfl rfl (by kernel_rfl) (by decide) (fun K hK => ?_)
  refine goes_ Try.func97 (by kernel_rfl) rfl #[.slice Ax h.ev.length cx] (by rfl) rfl rfl (by (try simp only [List.map_toArray,List.map_cons,List.map_nil]);first | done | rfl) ?_
  refine (specCopyEvents_v h.ev SM.out.l4 SM.out.d4 wd Ax cx (Kd.C_below RE.out HBd.out) LE.out).mono ?_
  rintro e we ⟨Ae,ce,rfl,hr9,hb⟩
  refine ⟨_,rfl, ?_⟩
  have HR9:=Lib.hid hr9
  have HBe:=Lib.hid (below_then HBd.out HBd.out.size hb)
  have X1e:=Lib.hid (blk_below X1d.out hb)
  have X2e:=Lib.hid (blk_below X2d.out hb)
  have X4e:=Lib.hid (blk_below X4d.out hb)
  have HVe:=Lib.hid (HVd.out.below hb)
  clear hr9 hb
  refine hK.out _ _ ⟨X4e.out,X1e.out⟩ (fun hHeld => ?_)
  clear hK K
  refine norm_ (a' := ?_) ?_ ?_
  rotate_left
  ·show Act.put _ (some 17) _ = _
   simp only [Act.put,List.setIfInBounds_toArray,List.set_cons_zero,List.set_cons_succ,i64_w,i32_w]
   rfl
  refine last_ (i:=4) (N:=none) #[true,true,true,true,true,false] rfl rfl (by kernel_rfl) (by decide) (fun K hK => ?_)
  refine st_blk (by rfl) rfl rfl (g:=g2) (j:=0) (cs:=⟨[.int .i64 0, .int .i64 0, .int .i64 0, .int .i64 0, .slice none 0 0, .slice none 0 0, .slice none 0 0, .slice none 0 0, .int .i64 0, .int .i64 0]⟩) (cs':=⟨hostC { h with ev := [] } vf vb vq (.slice (some ⟨gl,0,none⟩) 0 0)⟩) (T:=32) (u := .agg ⟨hostC { h with ev := [] } vf vb vq (.slice (some ⟨gl,0,none⟩) 0 0)⟩) (seg:=hostC { h with ev := [] } vf vb vq (.slice (some ⟨gl,0,none⟩) 0 0)) rfl rfl X2e.out rfl (by kernel_rfl) ?hone rfl rfl ?_
  (case hone => exact List.all_eq_true.2 (HRead.one HVe.out.read))
  intro wz hx hT
  have HZX:=Lib.hid hx
  have HZV:=Lib.hid ((HVe.out.bound.tch hT (fun k hk => hk.2.ne X2e.out (by decide))).read)
  have HZE:=Lib.hid (S_tch HR9.out X2e.out (by decide) hT)
  have HZB:=Lib.hid (hT.below HBe.out HBe.out.size (fun k hk => by rw [hk];exact LO_HB_g2.out))
  clear hx hT
  refine hK.out _ _ ?_
  clear hK K
  refine pure_ (i:=5) (N:=some 3) (v := ?_) (a' := ?_) #[true,true,true,true,true,true] rfl rfl (by kernel_rfl) (fun _ _ _ h => h) (Or.inl ⟨by rfl, ?_⟩) ?_ ?_
  rotate_left
  ·intro w'
   go_simp
   with_reducible rfl
  rotate_left
  ·simp only [Act.put,List.setIfInBounds_toArray,List.set_cons_zero,List.set_cons_succ,i64_w,i32_w]
   rfl
  refine done_ (by kernel_rfl) ?_
  go_wp2_with (fail)
  refine bodyPost_ret (results_ct rfl _ _ g2 32 ⟨hostC { h with ev := [] } vf vb vq (.slice (some ⟨gl,0,none⟩) 0 0)⟩ (0,0) _ rfl HZX.out Try.underlying32 rfl (by kernel_rfl)) rfl ?_
  exact ⟨_,Ae,ce,rfl,HZV.out,(Kd.S_reads' HZE.out).2.2,(Kd.S_reads' HZE.out).2.1,HZB.out⟩
end Go.Proofs.Ytcaefabbcjlkdaa.P
namespace Go.Proofs.Ytcaefabbcjlkdaa.P
open Go Go.RowKit Go.Deep Go.Proofs.YtcaefabbcjlkdaaW.PrintWords
set_option linter.unusedVariables false
def Reads (P : Program) (t : TypeId) {α : Type} (d : Kd α) (B : α → Prop) : Prop :=
 ∀ (H : Type) (enc : TypeId × Value → H) (w : World) (base : Nat) (spare : Nat → Bool) (held : Bool) (fuel : Nat) (cs : List Value) (x : DataW H × List MemPlace),DataW.trod enc P w base spare held fuel t cs = some x → ∃ v : α,d.K w v cs ∧ B v
theorem reads_int {P : Program} {t : TypeId} {k : IntKind} (h : P.underlying t = some (.int k)) : Reads P t (Kd.int k) (fun n => (Lit.int k n).wf = true):=by
 intro H enc w base spare held fuel cs x hx
 obtain ⟨n,hc,_,hw⟩:=DataW.trod_int h hx
 exact ⟨n,hc,hw⟩
theorem reads_bool {P : Program} {t : TypeId} (h : P.underlying t = some .bool) : Reads P t Kd.bool (fun _ => True):=by
 intro H enc w base spare held fuel cs x hx
 obtain ⟨n,hc,_⟩:=DataW.trod_bool h hx
 exact ⟨n,hc,trivial⟩
theorem reads_slice {P : Program} {t e : TypeId} {α : Type} {d : Kd α} {B : α → Prop} (h : P.underlying t = some (.slice e)) (hc : P.cellsOf e = d.sz) (hd : Reads P e d B) : Reads P t (Kd.slice e d) (fun xs => xs.length ≤ maxLen ∧ ∀ x ∈ xs,B x):=by
 intro H enc w base spare held fuel cs x hx
 rcases open_slice h hx with ⟨rfl,_⟩ | ⟨a,len,cap,m,n,D,Pl,rfl,_,hl,hm,hmm,_,hi⟩
 ·exact ⟨[],⟨none,0,rfl,Nat.le_refl _,rfl,by simp,fun h => absurd h (by simp)⟩,by simp [maxLen],fun x hx => by cases hx⟩
 ·have hlm : len ≤ m:=by rw [hmm];split <;> omega
  have key : ∀ i : Fin len, ∃ v : α,B v ∧ ∃ c,c.length = d.sz ∧ d.K w v c ∧ ∀ j u,c[j]? = some u → w.cell? (a.add (i.val * d.sz + j)) = some u:=by
   intro i
   obtain ⟨cs',h1,h2⟩:=hi i.val (by omega)
   obtain ⟨v,hk,hb⟩:=hd H enc w base spare held n cs' _ h2
   obtain ⟨_,hcl,hat⟩:=World.cells?_some h1
   refine ⟨v,hb,cs',d.K_len hk,hk,fun j u hj => ?_⟩
   have hjl : j < cs'.length:=(List.getElem?_eq_some_iff.1 hj).1
   have:=hat j (by omega)
   rw [← hc, ← Go.Deep.add_add,this,hj]
  have hv : ∃ f : Fin len → α, ∀ i,B (f i) ∧ ∃ c,c.length = d.sz ∧ d.K w (f i) c ∧ ∀ j u,c[j]? = some u → w.cell? (a.add (i.val * d.sz + j)) = some u:=⟨fun i => (key i).choose,fun i => (key i).choose_spec⟩
  obtain ⟨f,hf⟩:=hv
  have hml : len ≤ 9223372036854775807:=by simp only [maxLen] at hm;omega
  refine ⟨List.ofFn f,⟨some a,cap,by rw [List.length_ofFn],by rw [List.length_ofFn];exact hl,rfl,by rw [List.length_ofFn];exact hml,fun _ => ⟨a,rfl,fun j p hj => ?_⟩⟩,by rw [List.length_ofFn];omega,fun x hx => ?_⟩
  ·obtain ⟨hjl,rfl⟩:=List.getElem?_eq_some_iff.1 hj
   rw [List.length_ofFn] at hjl
   rw [List.getElem_ofFn]
   obtain ⟨_,c,h1,h2,h3⟩:=hf ⟨j,hjl⟩
   exact ⟨c,h1,h2,h3⟩
  ·obtain ⟨i,rfl⟩:=(List.mem_ofFn).1 hx
   exact (hf i).1
def ReadsFields (P : Program) (fs : List Field) (o : Nat) {α : Type} (d : Kd α) (B : α → Prop) : Prop :=
 ∀ (H : Type) (enc : TypeId × Value → H) (w : World) (base : Nat) (spare : Nat → Bool) (held : Bool) (fuel : Nat) (cs : List Value),cs.length = o + d.sz →
  (∀ f ∈ fs, ∃ x,DataW.trod enc P w base spare held fuel f.type ((cs.drop f.offset).take (P.cellsOf f.type)) = some x) → ∃ v : α,d.K w v (cs.drop o) ∧ B v
theorem rf_last {P : Program} {f : Field} {o : Nat} {α : Type} {d : Kd α} {B : α → Prop} (ho : f.offset = o) (hc : P.cellsOf f.type = d.sz) (hd : Reads P f.type d B) : ReadsFields P [f] o d B:=by
 intro H enc w base spare held fuel cs hl hf
 obtain ⟨x,hx⟩:=hf f (by simp)
 rw [ho,hc,List.take_of_length_le (by rw [List.length_drop];omega)] at hx
 exact hd H enc w base spare held fuel _ _ hx
theorem rf_cons {P : Program} {f : Field} {fs : List Field} {o : Nat} {α β : Type} {a : Kd α} {b : Kd β} {A : α → Prop} {B : β → Prop} (ho : f.offset = o) (hc : P.cellsOf f.type = a.sz) (ha : Reads P f.type a A) (hb : ReadsFields P fs (o + a.sz) b B) :
  ReadsFields P (f :: fs) o (Kd.pair a b) (fun x => A x.1 ∧ B x.2):=by
 intro H enc w base spare held fuel cs hl hf
 have hl' : cs.length = o + (a.sz + b.sz):=hl
 obtain ⟨x,hx⟩:=hf f List.mem_cons_self
 rw [ho,hc] at hx
 obtain ⟨v,hv,hA⟩:=ha H enc w base spare held fuel _ _ hx
 obtain ⟨u,hu,hB⟩:=hb H enc w base spare held fuel cs (by omega) (fun g hg => hf g (List.mem_cons_of_mem _ hg))
 refine ⟨(v,u),⟨(cs.drop o).take a.sz,cs.drop (o + a.sz), ?_,hv,hu⟩,hA,hB⟩
 rw [← List.drop_drop,List.take_append_drop]
theorem reads_struct {P : Program} {t : TypeId} {fs : Array Field} {α β : Type} {d : Kd α} {B : α → Prop} (f : β → α) (g : α → β) (hfg : ∀ x,f (g x) = x) (h : P.underlying t = some (.struct fs)) (hc : P.cellsOf t = d.sz) (hr : ReadsFields P fs.toList 0 d B) : Reads P t (Kd.iso d f) (fun x => B (f x)):=by
 intro H enc w base spare held fuel cs x hx
 obtain ⟨xs,n,_,_,hl,hxl,hg⟩:=DataW.trod_struct h hx
 obtain ⟨v,hv,hB⟩:=hr H enc w base spare held n cs (by rw [hl,hc];omega) (fun fd hfd => by
  obtain ⟨i,hi,rfl⟩:=List.getElem_of_mem hfd
  have hi' : i < fs.size:=by simpa using hi
  have:=hg i fs[i] (by rw [Array.getElem?_eq_getElem hi'])
  rw [List.getElem?_eq_getElem (show i < xs.length by omega)] at this
  rw [Array.getElem_toList]
  exact ⟨_,this⟩)
 refine ⟨g v, ?_,by show B (f (g v));rw [hfg];exact hB⟩
 show d.K w (f (g v)) cs
 rw [hfg]
 exact hv
end Go.Proofs.Ytcaefabbcjlkdaa.P
namespace Go.Proofs.Ytcaefabbcjlkdaa.P
open Go.RowKit Go.Proofs.YtcaefabbcjlkdaaW.PrintWords Go.Proofs.YtcaefabbcjlkdaaW.PrintLast Go.Proofs.YtcaefabbcjlkdaaW.PrintMore
set_option linter.unusedVariables false
set_option linter.unusedSimpArgs false
def b23 (x : S23) : Prop:=(Lit.int .i64 x.f0).wf = true ∧ (Lit.int .i64 x.f1).wf = true ∧ (Lit.int .i64 x.f2).wf = true ∧ (Lit.int .i64 x.f3).wf = true
theorem reads23 : Reads Try.prog 23 k23 b23:=reads_struct (fun x : S23 => (x.f0,x.f1,x.f2,x.f3)) (fun y => ⟨y.1,y.2.1,y.2.2.1,y.2.2.2⟩) (fun _ => rfl) Try.underlying23 (by kernel_rfl) (rf_cons rfl (by kernel_rfl) (reads_int Try.underlying3) (rf_cons rfl (by kernel_rfl) (reads_int Try.underlying3) (rf_cons rfl (by kernel_rfl) (reads_int Try.underlying3) (rf_last rfl (by kernel_rfl) (reads_int Try.underlying3)))))
def b91 (x : S91) : Prop:=True ∧ (Lit.int .u32 x.f1).wf = true ∧ (Lit.int .u32 x.f2).wf = true
theorem reads91 : Reads Try.prog 91 k91 b91:=reads_struct (fun x : S91 => (x.f0,x.f1,x.f2)) (fun y => ⟨y.1,y.2.1,y.2.2⟩) (fun _ => rfl) Try.underlying91 (by kernel_rfl) (rf_cons rfl (by kernel_rfl) (reads_bool Try.underlying4) (rf_cons rfl (by kernel_rfl) (reads_int Try.underlying43) (rf_last rfl (by kernel_rfl) (reads_int Try.underlying43))))
def b77 (x : S77) : Prop:=True ∧ (Lit.int .u32 x.f1).wf = true ∧ True ∧ (Lit.int .i64 x.f3).wf = true ∧ (x.f4.length ≤ maxLen ∧ ∀ y_ ∈ x.f4,(Lit.int .u8 y_).wf = true)
theorem reads77 : Reads Try.prog 77 k77 b77:=reads_struct (fun x : S77 => (x.f0,x.f1,x.f2,x.f3,x.f4)) (fun y => ⟨y.1,y.2.1,y.2.2.1,y.2.2.2.1,y.2.2.2.2⟩) (fun _ => rfl) Try.underlying77 (by kernel_rfl) (rf_cons rfl (by kernel_rfl) (reads_bool Try.underlying4) (rf_cons rfl (by kernel_rfl) (reads_int Try.underlying43) (rf_cons rfl (by kernel_rfl) (reads_bool Try.underlying4) (rf_cons rfl (by kernel_rfl) (reads_int Try.underlying3) (rf_last rfl (by kernel_rfl) (reads_slice Try.underlying42 (by kernel_rfl) (reads_int Try.underlying5)))))))
def b141 (x : S141) : Prop:=(Lit.int .i64 x.f0).wf = true ∧ (Lit.int .i64 x.f1).wf = true ∧ (Lit.int .i64 x.f2).wf = true ∧ b77 x.f3
theorem reads141 : Reads Try.prog 141 k141 b141:=reads_struct (fun x : S141 => (x.f0,x.f1,x.f2,x.f3)) (fun y => ⟨y.1,y.2.1,y.2.2.1,y.2.2.2⟩) (fun _ => rfl) Try.underlying141 (by kernel_rfl) (rf_cons rfl (by kernel_rfl) (reads_int Try.underlying3) (rf_cons rfl (by kernel_rfl) (reads_int Try.underlying3) (rf_cons rfl (by kernel_rfl) (reads_int Try.underlying3) (rf_last rfl (by kernel_rfl) reads77))))
def b144 (x : S144) : Prop:=(Lit.int .i64 x.f0).wf = true ∧ (Lit.int .i64 x.f1).wf = true ∧ (Lit.int .i64 x.f2).wf = true ∧ b77 x.f3
theorem reads144 : Reads Try.prog 144 k144 b144:=reads_struct (fun x : S144 => (x.f0,x.f1,x.f2,x.f3)) (fun y => ⟨y.1,y.2.1,y.2.2.1,y.2.2.2⟩) (fun _ => rfl) Try.underlying144 (by kernel_rfl) (rf_cons rfl (by kernel_rfl) (reads_int Try.underlying3) (rf_cons rfl (by kernel_rfl) (reads_int Try.underlying3) (rf_cons rfl (by kernel_rfl) (reads_int Try.underlying3) (rf_last rfl (by kernel_rfl) reads77))))
def b63 (x : S63) : Prop:=b23 x.f0 ∧ (x.f1.length ≤ maxLen ∧ ∀ y_ ∈ x.f1,b91 y_) ∧ (x.f2.length ≤ maxLen ∧ ∀ y_ ∈ x.f2,b141 y_) ∧ (x.f3.length ≤ maxLen ∧ ∀ y_ ∈ x.f3,b77 y_) ∧ (x.f4.length ≤ maxLen ∧ ∀ y_ ∈ x.f4,b144 y_) ∧ (Lit.int .i64 x.f5).wf = true ∧ (Lit.int .i64 x.f6).wf = true
theorem reads63 : Reads Try.prog 63 k63 b63:=reads_struct (fun x : S63 => (x.f0,x.f1,x.f2,x.f3,x.f4,x.f5,x.f6)) (fun y => ⟨y.1,y.2.1,y.2.2.1,y.2.2.2.1,y.2.2.2.2.1,y.2.2.2.2.2.1,y.2.2.2.2.2.2⟩) (fun _ => rfl) Try.underlying63 (by kernel_rfl) (rf_cons rfl (by kernel_rfl) reads23 (rf_cons rfl (by kernel_rfl) (reads_slice Try.underlying24 (by kernel_rfl) reads91) (rf_cons rfl (by kernel_rfl) (reads_slice Try.underlying59 (by kernel_rfl) reads141) (rf_cons rfl (by kernel_rfl) (reads_slice Try.underlying60 (by kernel_rfl) reads77) (rf_cons rfl (by kernel_rfl) (reads_slice Try.underlying61 (by kernel_rfl) reads144) (rf_cons rfl (by kernel_rfl) (reads_int Try.underlying3) (rf_last rfl (by kernel_rfl) (reads_int Try.underlying3))))))))
end Go.Proofs.Ytcaefabbcjlkdaa.P
namespace Go.Proofs.Ytcaefabbcjlkdaa.Pure
open Go Go.RowKit Go.Proofs.Ytcaefabbcjlkdaa.P Go.Proofs.YtcaefabbcjlkdaaW.PrintWords Go.Proofs.YtcaefabbcjlkdaaW.PrintLast Go.Proofs.YtcaefabbcjlkdaaW.PrintMore
set_option linter.unusedVariables false
set_option linter.unusedSimpArgs false
def Ev8 (E : List S56) : Prop:=E.length ≤ 32 ∧ ∀ y ∈ E,y.f3.f4.length ≤ 8
theorem Ev8.zero : Ev8 []:=⟨by decide,fun y hy => by cases hy⟩
theorem _root_.Go.Proofs.Ytcaefabbcjlkdaa.P.GoodH.ev8 {h : HV} (G : GoodH h) : Ev8 h.ev:=⟨G.lens.2.2.2,G.e8⟩
theorem off8 {E : List S56} (h : Ev8 E) : ∀ n,offEvent E n ≤ 15 * (n : Int):=by
 intro n
 induction n with
 | zero => exact Int.le_refl _
 | succ n ih =>
  rw [offEvent]
  have : (E.getD n z56).f3.f4.length ≤ 8:=getD_mem E n _ (p:=fun y => y.f3.f4.length ≤ 8) h.2 (by decide)
  omega
theorem cnt_ev {V : HV} {E : List S56} (S : S8 V) (h : Ev8 E) : cnt4 V 1 + offEvent E E.length ≤ 50000000:=by
 have h1:=off8 h E.length
 have h2:=h.1
 have h3:=S.top
 omega
theorem lb_of (x : S63) (h : b63 x) : LB x:=by
 obtain ⟨_,h1,h2,h3,h4,_,_⟩:=h
 exact ⟨h1.1,h2.1,h3.1,h4.1,fun y hy => (h2.2 y hy).2.2.2.2.2.2.2.1,fun y hy => (h3.2 y hy).2.2.2.2.1,fun y hy => (h4.2 y hy).2.2.2.2.2.2.2.1⟩
theorem HOwn.one {w : World} {base : Nat} {ok : Nat → Prop} {h : HV} {C : List Value} (H : HOwn w base ok h C) : ∀ u ∈ C,u.oneCell' = true:=HRead.one H.read
set_option maxRecDepth 100000 in
set_option maxHeartbeats 8000000 in
theorem FnExactDrain_walk (x0 : S63) (hB0 : b63 x0)  (w : World) (C0 : List Value) (hK0 : k63.K w x0 C0) :
  Calls Try.prog 7 #[.agg ⟨C0⟩] w fun e w' => e = .returned (.bool true) ∧ Below w.heap.size w w':=by
 have hu63:=Lib.hid Try.underlying63
 have hu32:=Lib.hid Try.underlying32
 have HI0 : Hid ((Try.prog.info? 63).map (·.size) = some C0.length):=Lib.hid (by obtain ⟨A4,c4,A5,c5,A6,c6,A7,c7,e,_⟩:=k63_open hK0;rw [e];kernel_rfl)
 have HK : Hid (∀ w',Below w.heap.size w w' → k63.K w' x0 C0):=Lib.hid (fun w' hb => K_host_below hK0 hb)
 have HB_0 : Hid (Below w.heap.size w w):=Lib.hid (Below.refl _ _)
 obtain ⟨r,hr,hsz⟩:=szHost_all x0 1048576 (lb_of x0 hB0) (by decide) (by decide)
 have HSZ:=Lib.hid hsz
 clear hsz hB0 hK0
 rcases hr with rfl | ⟨h0,hle,hF⟩
 ·obtain ⟨r,hr⟩ : ∃ r : Int,r = -1:=⟨_,rfl⟩
  rw [← hr] at HSZ
  have cr : decide (r < 0) = true:=decide_eq_true (by omega)
  clear hr
  go_enter Try.func7,Try.ntmps7
  go_upto_region 1 with (first | ((with_reducible refine gate_dst (N:=1) rfl ?_);refine box_event ?hg (N:=1) ?hd (cs:=⟨C0⟩) (t:=63) ?hr ?_;(case hd => rfl);(case hg => rfl);(case hr => first | (go_simp;done) | (go_simp;rfl));intro g2 hg w1 hbox hb;have HB_1:=Lib.hid (below_then HB_0.out HB_0.out.size hb);have G2_1:=Lib.hid hbox;clear hg hbox hb))
  go_wp2_with (first | ((with_reducible refine gate_dst (N:=14) rfl ?_);refine load_all rfl rfl (g:=g2) rfl G2_1.out hu63.out HI0.out ?_) | (go_at_call 32;refine (HSZ.out w1 C0 (HK.out _ HB_1.out)).mono ?_;rintro e w2 ⟨rfl,hb⟩;have HB_2:=Lib.hid (below_then HB_1.out HB_1.out.size hb);have G2_2:=Lib.hid (blk_below G2_1.out hb);clear hb))
  go_ret
  exact ⟨rfl,HB_2.out⟩
 ·have cr : decide (r < 0) = false:=decide_eq_false (by omega)
  have F:=Lib.hid hF
  clear h0 hle hF
  obtain ⟨h,hh⟩ : ∃ h,h = hvOf x0:=⟨_,rfl⟩
  have HH:=Lib.hid hh
  have SM : Hid (HSm h):=Lib.hid (by rw [hh];exact F.out.sm)
  have MK : Hid (HMarks 1 h):=Lib.hid (by rw [hh];exact F.out.mks)
  clear hh
  obtain ⟨o,o1,o2,o3,o4,hO⟩:=OkH.total h SM.out.l1
  have OK:=Lib.hid hO
  clear hO
  obtain ⟨V,hV⟩ : ∃ V,V = (if o = true then { h with ev := [] } else hv0):=⟨_,rfl⟩
  have HV1:=Lib.hid hV
  obtain ⟨E,hE⟩ : ∃ E,E = (if o = true then h.ev else ([] : List S56)):=⟨_,rfl⟩
  have HE1:=Lib.hid hE
  have E8 : Hid (Ev8 E):=Lib.hid (by rw [hE];cases o with | false => exact Ev8.zero | true => exact OK.out.good.ev8)
  have EL : Hid (E.length ≤ 10000000 ∧ ∀ y ∈ E,y.f3.f4.length ≤ 10000000):=Lib.hid ⟨Nat.le_trans E8.out.1 (by decide),fun y hy => Nat.le_trans (E8.out.2 y hy) (by decide)⟩
  clear hE
  have S8V : Hid (S8 V):=Lib.hid (by rw [hV];cases o with | false => exact S8.zero | true => exact (by have q:=OK.out.good.s8;exact ⟨q.l1,q.l2,q.l3,Nat.zero_le _,q.d2,q.d3,fun y hy => by cases hy⟩))
  clear hV
  go_enter Try.func7,Try.ntmps7
  go_upto_region 1 with (first | ((with_reducible refine gate_dst (N:=1) rfl ?_);refine box_event ?hg (N:=1) ?hd (cs:=⟨C0⟩) (t:=63) ?hr ?_;(case hd => rfl);(case hg => rfl);(case hr => first | (go_simp;done) | (go_simp;rfl));intro g2 hg w1 hbox hb;have HB_1:=Lib.hid (below_then HB_0.out HB_0.out.size hb);have G2_1:=Lib.hid hbox;clear hg hbox hb))
  go_upto_region 5 with (first | ((with_reducible refine gate_dst (N:=14) rfl ?_);refine load_all rfl rfl (g:=g2) rfl G2_1.out hu63.out HI0.out ?_) | (go_at_call 32;refine (HSZ.out w1 C0 (HK.out _ HB_1.out)).mono ?_;rintro e w2 ⟨rfl,hb⟩;have HB_2:=Lib.hid (below_then HB_1.out HB_1.out.size hb);have G2_2:=Lib.hid (blk_below G2_1.out hb);clear hb))
  go_upto_region 6 with (first | ((with_reducible refine gate_dst (N:=20) rfl ?_);refine load_all rfl rfl (g:=g2) rfl G2_2.out hu63.out HI0.out ?_) | (go_at_call 34;refine (toHost_v x0 F.out w2 C0 (HK.out _ HB_2.out)).mono ?_;rintro e w3 ⟨Ca,rfl,ho,hb⟩;rw [← HH.out] at ho;have HA_3:=Lib.hid ho;have HB_3:=Lib.hid (below_then HB_2.out HB_2.out.size hb);have G2_3:=Lib.hid (blk_below G2_2.out hb);clear ho hb) | (go_at_call 43;refine (specDrain_v h o o1 o2 o3 o4 OK.out V HV1.out E HE1.out w3 Ca HA_3.out.read SM.out).mono ?_;rintro e w4 ⟨Cw,Aw,cw,rfl,ho,he,hle,hb⟩;have HW0:=Lib.hid ho;have HWE0:=Lib.hid he;have HWL:=Lib.hid hle;clear ho he hle;have HB_4:=Lib.hid (below_then HB_3.out HB_3.out.size hb);have G2_4:=Lib.hid (blk_below G2_3.out hb);clear hb) | ((with_reducible refine gate_dst (N:=4) rfl ?_);refine box_event ?hg (N:=4) ?hd (cs:=⟨[.int .i64 0, .int .i64 0, .int .i64 0, .int .i64 0, .slice none 0 0, .slice none 0 0, .slice none 0 0, .slice none 0 0, .int .i64 0, .int .i64 0]⟩) (t:=32) ?hr ?_;(case hd => rfl);(case hg => rfl);(case hr => first | (go_simp;done) | (go_simp;rfl));intro g6 hg w5 hbox hb;have HB_5:=Lib.hid (below_then HB_4.out HB_4.out.size hb);have G2_5:=Lib.hid (blk_below G2_4.out hb);have Z_5:=Lib.hid hbox;have HEg6:=Lib.hid hg;have HN6 : Hid (∀ k o,w4.heap[k]? = some o → k ≠ g6):=Lib.hid (fun k o h e => by have h1:=blk_lt h;omega);have LO6 : Hid (w.heap.size ≤ g6):=Lib.hid (by rw [hg];exact HB_4.out.size);have HWB:=Lib.hid hb;clear hg hbox hb) | ((with_reducible refine gate_store (t:=32) (p:=4) rfl ?_);refine store_all rfl rfl rfl (g:=g6) (C:=Cw) rfl rfl Z_5.out (by rw [HW0.out.len];kernel_rfl) (HRead.one HW0.out) HW0.out.len.symm ?_;intro w6 hx hT;have G6_6:=Lib.hid hx;have HB_6:=Lib.hid (hT.below HB_5.out HB_5.out.size (fun k hk => by rw [hk];exact LO6.out));have G2_6:=Lib.hid (hT.blk G2_5.out (fun e => HN6.out _ _ G2_4.out e));have HWT:=Lib.hid (HW0.out.below (hT.below HWB.out HWB.out.size (fun k hk => by rw [hk,HEg6.out];exact Nat.le_refl _)));have HWE:=Lib.hid (Kd.C_below HWE0.out (hT.below HWB.out HWB.out.size (fun k hk => by rw [hk,HEg6.out];exact Nat.le_refl _)));clear hx hT))
  have HT_6 : Hid (Below w6.heap.size w6 w6):=Lib.hid (Below.refl _ _)
  go_upto_region 7 with (first | ((with_reducible refine gate_dst (N:=25) rfl ?_);refine load_all rfl rfl (g:=g2) rfl G2_6.out hu63.out HI0.out ?_) | (go_at_call 34;refine (toHost_v x0 F.out w6 C0 (HK.out _ HB_6.out)).mono ?_;rintro e w7 ⟨Cx,rfl,ho,hb⟩;rw [← HH.out] at ho;have HX_7:=Lib.hid ho.bound;have HXB_7 : Hid (Below w7.heap.size w7 w7):=Lib.hid (Below.refl _ _);have HB_7:=Lib.hid (below_then HB_6.out HB_6.out.size hb);have G2_7:=Lib.hid (blk_below G2_6.out hb);have G6_7:=Lib.hid (blk_below G6_6.out hb);have HT_7:=Lib.hid (below_then HT_6.out HT_6.out.size hb);clear ho hb) | ((with_reducible refine gate_dst (N:=6) rfl ?_);refine box_event ?hg (N:=6) ?hd (cs:=⟨[.int .i64 0, .int .i64 0, .int .i64 0, .int .i64 0, .slice none 0 0, .slice none 0 0, .slice none 0 0, .slice none 0 0, .int .i64 0, .int .i64 0]⟩) (t:=32) ?hr ?_;(case hd => rfl);(case hg => rfl);(case hr => first | (go_simp;done) | (go_simp;rfl));intro g7 hg w8 hbox hb;have HB_8:=Lib.hid (below_then HB_7.out HB_7.out.size hb);have G2_8:=Lib.hid (blk_below G2_7.out hb);have G6_8:=Lib.hid (blk_below G6_7.out hb);have HT_8:=Lib.hid (below_then HT_7.out HT_7.out.size hb);have HX_8:=Lib.hid (HX_7.out.below hb);have HXB_8:=Lib.hid (below_then HXB_7.out HXB_7.out.size hb);have Z_8:=Lib.hid hbox;have HEg7:=Lib.hid hg;have HNg7 : Hid (∀ k o,w7.heap[k]? = some o → k ≠ g7):=Lib.hid (fun k o h e => by have h1:=blk_lt h;omega);have LOg7 : Hid (w.heap.size ≤ g7):=Lib.hid (by rw [hg];exact HB_7.out.size);have LTg7 : Hid (w6.heap.size ≤ g7):=Lib.hid (by rw [hg];exact HT_7.out.size);have LXg7 : Hid (w7.heap.size ≤ g7):=Lib.hid (by rw [hg];exact HXB_7.out.size);clear hg hbox hb) | ((with_reducible refine gate_store (t:=32) (p:=6) rfl ?_);refine store_all rfl rfl rfl (g:=g7) (C:=Cx) rfl rfl Z_8.out (by rw [HX_8.out.read.len];kernel_rfl) (HOwn.one HX_8.out) HX_8.out.read.len.symm ?_;intro w9 hx hT;have G7_9:=Lib.hid hx;have HB_9:=Lib.hid (hT.below HB_8.out HB_8.out.size (fun k hk => by rw [hk];exact LOg7.out));have G2_9:=Lib.hid (hT.blk G2_8.out (fun e => HNg7.out _ _ G2_7.out e));have G6_9:=Lib.hid (hT.blk G6_8.out (fun e => HNg7.out _ _ G6_7.out e));have HT_9:=Lib.hid (hT.below HT_8.out HT_8.out.size (fun k hk => by rw [hk];exact LTg7.out));have HX_9:=Lib.hid (HX_8.out.tch hT (fun k hk e => by have h1:=hk.2.2.1;have h2:=HEg7.out;have h3:=Nat.le_refl 0;omega));have HXB_9:=Lib.hid (hT.below HXB_8.out HXB_8.out.size (fun k hk => by rw [hk];exact LXg7.out));clear hx hT))
  go_upto_region 8 with (first | ((with_reducible refine gate_dst (N:=28) rfl ?_);refine load_all rfl rfl (g:=g7) rfl G7_9.out hu32.out (by rw [HX_9.out.read.len];kernel_rfl) ?_) | (go_at_call 30;refine (implDrain_v h o o1 o2 o3 o4 OK.out V HV1.out E HE1.out w9 Cx HX_9.out.read SM.out).mono ?_;rintro e w10 ⟨Cg,Ag,cg,md,rfl,ho,he,hb⟩;have HO_10:=Lib.hid ho.bound;have HE_10:=Lib.hid (Kd.S_bound he);have HSG:=Lib.hid hb;clear ho he;have HB_10:=Lib.hid (below_then HB_9.out HB_9.out.size hb);have G2_10:=Lib.hid (blk_below G2_9.out hb);have G6_10:=Lib.hid (blk_below G6_9.out hb);have HT_10:=Lib.hid (below_then HT_9.out HT_9.out.size hb);have HX_10:=Lib.hid (HX_9.out.below hb);have HXB_10:=Lib.hid (below_then HXB_9.out HXB_9.out.size hb);have G7_10:=Lib.hid (blk_below G7_9.out hb);clear hb) | ((with_reducible refine gate_dst (N:=7) rfl ?_);refine box_event ?hg (N:=7) ?hd (cs:=⟨[.int .i64 0, .int .i64 0, .int .i64 0, .int .i64 0, .slice none 0 0, .slice none 0 0, .slice none 0 0, .slice none 0 0, .int .i64 0, .int .i64 0]⟩) (t:=32) ?hr ?_;(case hd => rfl);(case hg => rfl);(case hr => first | (go_simp;done) | (go_simp;rfl));intro g8 hg w11 hbox hb;have HB_11:=Lib.hid (below_then HB_10.out HB_10.out.size hb);have G2_11:=Lib.hid (blk_below G2_10.out hb);have G6_11:=Lib.hid (blk_below G6_10.out hb);have HT_11:=Lib.hid (below_then HT_10.out HT_10.out.size hb);have HX_11:=Lib.hid (HX_10.out.below hb);have HXB_11:=Lib.hid (below_then HXB_10.out HXB_10.out.size hb);have G7_11:=Lib.hid (blk_below G7_10.out hb);have HO_11:=Lib.hid (HO_10.out.below hb);have HE_11:=Lib.hid (Kd.S_below HE_10.out hb);have Z_11:=Lib.hid hbox;have HEg8:=Lib.hid hg;have HNg8 : Hid (∀ k o,w10.heap[k]? = some o → k ≠ g8):=Lib.hid (fun k o h e => by have h1:=blk_lt h;omega);have LOg8 : Hid (w.heap.size ≤ g8):=Lib.hid (by rw [hg];exact HB_10.out.size);have LTg8 : Hid (w6.heap.size ≤ g8):=Lib.hid (by rw [hg];exact HT_10.out.size);have LXg8 : Hid (w7.heap.size ≤ g8):=Lib.hid (by rw [hg];exact HXB_10.out.size);clear hg hbox hb) | ((with_reducible refine gate_store (t:=32) (p:=7) rfl ?_);refine store_all rfl rfl rfl (g:=g8) (C:=Cg) rfl rfl Z_11.out (by rw [HO_11.out.read.len];kernel_rfl) (HOwn.one HO_11.out) HO_11.out.read.len.symm ?_;intro w12 hx hT;have G8_12:=Lib.hid hx;have HB_12:=Lib.hid (hT.below HB_11.out HB_11.out.size (fun k hk => by rw [hk];exact LOg8.out));have G2_12:=Lib.hid (hT.blk G2_11.out (fun e => HNg8.out _ _ G2_10.out e));have G6_12:=Lib.hid (hT.blk G6_11.out (fun e => HNg8.out _ _ G6_10.out e));have HT_12:=Lib.hid (hT.below HT_11.out HT_11.out.size (fun k hk => by rw [hk];exact LTg8.out));have HX_12:=Lib.hid (HX_11.out.tch hT (fun k hk e => by have h1:=hk.2.2.1;have h2:=HEg8.out;have h3:=HXB_10.out.size;omega));have HXB_12:=Lib.hid (hT.below HXB_11.out HXB_11.out.size (fun k hk => by rw [hk];exact LXg8.out));have G7_12:=Lib.hid (hT.blk G7_11.out (fun e => HNg8.out _ _ G7_10.out e));have HO_12:=Lib.hid (HO_11.out.tch hT (fun k hk e => by have h1:=hk.2.2.1;have h2:=HEg8.out;have h3:=Nat.le_refl 0;omega));have HE_12:=Lib.hid (S_tch HE_11.out Z_11.out (by decide) hT);clear hx hT))
  go_upto_region 10 with (first | ((with_reducible refine gate_dst (N:=32) rfl ?_);refine load_all rfl rfl (g:=g8) rfl G8_12.out hu32.out (by rw [HO_12.out.read.len];kernel_rfl) ?_) | ((with_reducible refine gate_dst (N:=33) rfl ?_);refine load_all rfl rfl (g:=g6) rfl G6_12.out hu32.out (by rw [HWT.out.len];kernel_rfl) ?_) | (go_at_call 19;refine (eqHost_v V S8V.out.sm w12 Cg Cw HO_12.out.read (HWT.out.below HT_12.out)).mono ?_;rintro e w13 ⟨rfl,hb⟩;have HB_13:=Lib.hid (below_then HB_12.out HB_12.out.size hb);have G2_13:=Lib.hid (blk_below G2_12.out hb);have G6_13:=Lib.hid (blk_below G6_12.out hb);have HT_13:=Lib.hid (below_then HT_12.out HT_12.out.size hb);have HX_13:=Lib.hid (HX_12.out.below hb);have HXB_13:=Lib.hid (below_then HXB_12.out HXB_12.out.size hb);have G7_13:=Lib.hid (blk_below G7_12.out hb);have HO_13:=Lib.hid (HO_12.out.below hb);have HE_13:=Lib.hid (Kd.S_below HE_12.out hb);have G8_13:=Lib.hid (blk_below G8_12.out hb);clear hb) | (go_at_call 46;refine (eqEventS_v E EL.out.1 EL.out.2 w13 Ag Aw cg cw (Kd.S_reads' HE_13.out).2.2 (Kd.S_reads' HE_13.out).2.1 (Kd.C_below HWE.out HT_13.out) HWL.out).mono ?_;rintro e w14 ⟨rfl,hb⟩;have HB_14:=Lib.hid (below_then HB_13.out HB_13.out.size hb);have G2_14:=Lib.hid (blk_below G2_13.out hb);have G6_14:=Lib.hid (blk_below G6_13.out hb);have HT_14:=Lib.hid (below_then HT_13.out HT_13.out.size hb);have HX_14:=Lib.hid (HX_13.out.below hb);have HXB_14:=Lib.hid (below_then HXB_13.out HXB_13.out.size hb);have G7_14:=Lib.hid (blk_below G7_13.out hb);have HO_14:=Lib.hid (HO_13.out.below hb);have HE_14:=Lib.hid (Kd.S_below HE_13.out hb);have G8_14:=Lib.hid (blk_below G8_13.out hb);clear hb))
  obtain ⟨wd,hwd⟩ : ∃ wd,wd = w14.drew:=⟨_,rfl⟩
  have hb : Below w14.heap.size w14 wd:=by rw [hwd];exact below_drew (Below.refl _ _)
  have HB_15:=Lib.hid (below_then HB_14.out HB_14.out.size hb)
  have G2_15:=Lib.hid (blk_below G2_14.out hb)
  have G6_15:=Lib.hid (blk_below G6_14.out hb)
  have HT_15:=Lib.hid (below_then HT_14.out HT_14.out.size hb)
  have HX_15:=Lib.hid (HX_14.out.below hb)
  have HXB_15:=Lib.hid (below_then HXB_14.out HXB_14.out.size hb)
  have G7_15:=Lib.hid (blk_below G7_14.out hb)
  have HO_15:=Lib.hid (HO_14.out.below hb)
  have HE_15:=Lib.hid (Kd.S_below HE_14.out hb)
  have G8_15:=Lib.hid (blk_below G8_14.out hb)
  clear hb
  refine start_ (n:=5) (S:=fun w' : World => w'.heap[g7]? = some (.cells ⟨Cx⟩ 32 (0,0)) ∧ w'.heap[g2]? = some (.cells ⟨C0⟩ 63 (0,0))) (ds := []) #[false,false,false,false,false] (by kernel_rfl) rfl rfl (hwd ▸ ⟨G7_15.out,G2_15.out⟩) (fun hHeld => ?_)
  rw [← hwd] at hHeld ⊢
  clear hwd
  refine take_ (i:=0) (N:=some 42) (a' := ?_) #[true,false,false,false,false] rfl rfl (by kernel_rfl) (fun _ _ _ h => h) (yieldsIf_load_mid (by rfl) _ _ rfl g7 0 rfl Cx _ (fun w h => range_all h.1) hu32.out rfl (by rw [HX_15.out.read.len];kernel_rfl)) hHeld ?_ ?_
  rotate_left
  ·simp only [Act.put,List.setIfInBounds_toArray,List.set_cons_zero,List.set_cons_succ,i64_w,i32_w]
   rfl
  refine take_ (i:=1) (N:=some 43) (a' := ?_) #[true,true,false,false,false] rfl rfl (by kernel_rfl) (fun _ _ _ h => h) (yieldsIf_load_mid (by rfl) _ _ rfl g2 0 rfl C0 _ (fun w h => range_all h.2) hu63.out rfl (by exact HI0.out)) hHeld ?_ ?_
  rotate_left
  ·simp only [Act.put,List.setIfInBounds_toArray,List.set_cons_zero,List.set_cons_succ,i64_w,i32_w]
   rfl
  refine one_ (i:=2) (N:=some 44) #[true,true,true,false,false] rfl rfl (by kernel_rfl) (by decide) (fun K hK => ?_)
  refine goes_ Try.func34 (by kernel_rfl) rfl #[.agg ⟨C0⟩] (by rfl) rfl rfl (by (try simp only [List.map_toArray,List.map_cons,List.map_nil]);first | done | rfl) ?_
  refine (toHost_v x0 F.out wd C0 (HK.out _ HB_15.out)).mono ?_
  rintro e w16 ⟨Cy,rfl,ho,hb⟩
  refine ⟨_,rfl, ?_⟩
  rw [← HH.out] at ho
  have HY:=Lib.hid ho.read
  have HB_16:=Lib.hid (below_then HB_15.out HB_15.out.size hb)
  have G2_16:=Lib.hid (blk_below G2_15.out hb)
  have G6_16:=Lib.hid (blk_below G6_15.out hb)
  have HT_16:=Lib.hid (below_then HT_15.out HT_15.out.size hb)
  have HX_16:=Lib.hid (HX_15.out.below hb)
  have HXB_16:=Lib.hid (below_then HXB_15.out HXB_15.out.size hb)
  have G7_16:=Lib.hid (blk_below G7_15.out hb)
  have HO_16:=Lib.hid (HO_15.out.below hb)
  have HE_16:=Lib.hid (Kd.S_below HE_15.out hb)
  have G8_16:=Lib.hid (blk_below G8_15.out hb)
  clear ho hb
  refine hK.out _ _ ⟨G7_16.out,G2_16.out⟩ (fun hHeld => ?_)
  clear hK K
  refine norm_ (a' := ?_) ?_ ?_
  rotate_left
  ·show Act.put _ (some 44) _ = _
   simp only [Act.put,List.setIfInBounds_toArray,List.set_cons_zero,List.set_cons_succ,i64_w,i32_w]
   rfl
  refine one_ (i:=3) (N:=some 45) #[true,true,true,true,false] rfl rfl (by kernel_rfl) (by decide) (fun K hK => ?_)
  refine goes_ Try.func19 (by kernel_rfl) rfl #[.agg ⟨Cx⟩, .agg ⟨Cy⟩] (by rfl) rfl rfl (by (try simp only [List.map_toArray,List.map_cons,List.map_nil]);first | done | rfl) ?_
  refine (eqHost_v h SM.out w16 Cx Cy HX_16.out.read HY.out).mono ?_
  rintro e w17 ⟨rfl,hb⟩
  refine ⟨_,rfl, ?_⟩
  have HB_17:=Lib.hid (below_then HB_16.out HB_16.out.size hb)
  have G2_17:=Lib.hid (blk_below G2_16.out hb)
  have G6_17:=Lib.hid (blk_below G6_16.out hb)
  have HT_17:=Lib.hid (below_then HT_16.out HT_16.out.size hb)
  have HX_17:=Lib.hid (HX_16.out.below hb)
  have HXB_17:=Lib.hid (below_then HXB_16.out HXB_16.out.size hb)
  have G7_17:=Lib.hid (blk_below G7_16.out hb)
  have HO_17:=Lib.hid (HO_16.out.below hb)
  have HE_17:=Lib.hid (Kd.S_below HE_16.out hb)
  have G8_17:=Lib.hid (blk_below G8_16.out hb)
  clear hb
  refine hK.out _ _ ⟨G7_17.out,G2_17.out⟩ (fun hHeld => ?_)
  clear hK K
  refine norm_ (a' := ?_) ?_ ?_
  rotate_left
  ·show Act.put _ (some 45) _ = _
   simp only [Act.put,List.setIfInBounds_toArray,List.set_cons_zero,List.set_cons_succ,i64_w,i32_w]
   rfl
  refine pure_ (i:=4) (N:=some 46) (v := ?_) (a' := ?_) #[true,true,true,true,true] rfl rfl (by kernel_rfl) (fun _ _ _ h => h) (Or.inl ⟨by rfl, ?_⟩) ?_ ?_
  rotate_left
  ·intro w'
   go_simp
   with_reducible rfl
  rotate_left
  ·simp only [Act.put,List.setIfInBounds_toArray,List.set_cons_zero,List.set_cons_succ,i64_w,i32_w]
   rfl
  refine done_ (by kernel_rfl) ?_
  go_upto_region 13 with (fail)
  have HN13 : Hid (w7.heap.size ≤ w9.heap.size):=Lib.hid HXB_9.out.size
  have HN0 : Hid (w6.heap.size ≤ w6.heap.size):=Lib.hid (Nat.le_refl _)
  go_upto_region 14 with (first | ((with_reducible refine gate_dst (N:=47) rfl ?_);refine load_all rfl rfl (g:=g7) rfl G7_17.out hu32.out (by rw [HX_17.out.read.len];kernel_rfl) ?_) | (go_at_call 22;refine (markHost_v w6 w17 _ h Cx 1 HT_17.out (HX_17.out.lower HN0.out) MK.out).mono ?_;rintro e w18 ⟨rfl,ho,hb2,hT⟩;have HB_18:=Lib.hid (hT.below HB_17.out HB_17.out.size (fun k hk => Nat.le_trans HB_6.out.size hk.2.1));have G2_18:=Lib.hid (hT.blk G2_17.out (fun e => e.2.ne G2_17.out (by decide) rfl));have G6_18:=Lib.hid (hT.blk G6_17.out (fun e => e.2.ne G6_17.out (by decide) rfl));have HT_18:=Lib.hid hb2;have G7_18:=Lib.hid (hT.blk G7_17.out (fun e => e.2.ne G7_17.out (by decide) rfl));have HO_18:=Lib.hid (HO_17.out.tch hT (fun k hk e => by have h1:=hk.2.1;have h2:=e.1.2.2.1;have h3:=HN13.out;omega));have HE_18:=Lib.hid (Kd.S_step HE_17.out (fun k hk hl => hT.block hl (fun e => by have h1:=hk.2.1;have h2:=e.1.2.2.1;have h3:=HN13.out;omega)));have G8_18:=Lib.hid (hT.blk G8_17.out (fun e => e.2.ne G8_17.out (by decide) rfl));clear ho hb2 hT))
  obtain ⟨ck,hck⟩ : ∃ ck,ck = cnt4 h 1:=⟨_,rfl⟩
  rw [← hck]
  have c14 : decide (ck < 0) = false:=decide_eq_false (by rw [hck];have:=cnt4_nn MK.out;omega)
  clear hck
  go_upto_region 17 with (first | ((with_reducible refine gate_dst (N:=53) rfl ?_);refine gate_guard (by rfl) ?_;refine load_all rfl rfl (g:=g8) rfl G8_18.out hu32.out (by rw [HO_18.out.read.len];kernel_rfl) ?_) | ((with_reducible refine gate_dst (N:=54) rfl ?_);refine gate_guard (by rfl) ?_;refine load_all rfl rfl (g:=g6) rfl G6_18.out hu32.out (by rw [HWT.out.len];kernel_rfl) ?_) | (go_at_call 19;refine (eqHost_v V S8V.out.sm w18 Cg Cw HO_18.out.read (HWT.out.below HT_18.out)).mono ?_;rintro e w19 ⟨rfl,hb⟩;have HB_19:=Lib.hid (below_then HB_18.out HB_18.out.size hb);have G2_19:=Lib.hid (blk_below G2_18.out hb);have G6_19:=Lib.hid (blk_below G6_18.out hb);have HT_19:=Lib.hid (below_then HT_18.out HT_18.out.size hb);have G7_19:=Lib.hid (blk_below G7_18.out hb);have HO_19:=Lib.hid (HO_18.out.below hb);have HE_19:=Lib.hid (Kd.S_below HE_18.out hb);have G8_19:=Lib.hid (blk_below G8_18.out hb);clear hb) | (go_at_call 46;refine (eqEventS_v E EL.out.1 EL.out.2 w19 Ag Aw cg cw (Kd.S_reads' HE_19.out).2.2 (Kd.S_reads' HE_19.out).2.1 (Kd.C_below HWE.out HT_19.out) HWL.out).mono ?_;rintro e w20 ⟨rfl,hb⟩;have HB_20:=Lib.hid (below_then HB_19.out HB_19.out.size hb);have G2_20:=Lib.hid (blk_below G2_19.out hb);have G6_20:=Lib.hid (blk_below G6_19.out hb);have HT_20:=Lib.hid (below_then HT_19.out HT_19.out.size hb);have G7_20:=Lib.hid (blk_below G7_19.out hb);have HO_20:=Lib.hid (HO_19.out.below hb);have HE_20:=Lib.hid (Kd.S_below HE_19.out hb);have G8_20:=Lib.hid (blk_below G8_19.out hb);clear hb))
  have HTG : Hid (w6.heap.size ≤ w9.heap.size):=Lib.hid HT_9.out.size
  go_upto_region 18 with (first | ((with_reducible refine gate_dst (N:=64) rfl ?_);refine load_all rfl rfl (g:=g8) rfl G8_20.out hu32.out (by rw [HO_20.out.read.len];kernel_rfl) ?_) | (go_at_call 22;refine (markHost_v w6 w20 _ V Cg 1 HT_20.out (HO_20.out.lower HTG.out) S8V.out.marks).mono ?_;rintro e w21 ⟨rfl,ho,hb2,hT⟩;have HO_21:=Lib.hid ho;have HB_21:=Lib.hid (hT.below HB_20.out HB_20.out.size (fun k hk => Nat.le_trans HB_6.out.size hk.2.1));have G2_21:=Lib.hid (hT.blk G2_20.out (fun e => e.2.ne G2_20.out (by decide) rfl));have G6_21:=Lib.hid (hT.blk G6_20.out (fun e => e.2.ne G6_20.out (by decide) rfl));have HT_21:=Lib.hid hb2;have G7_21:=Lib.hid (hT.blk G7_20.out (fun e => e.2.ne G7_20.out (by decide) rfl));have HE_21:=Lib.hid (Kd.S_step HE_20.out (fun k hk hl => hT.block hl (fun e => by have h1:=hk.1;have h2:=e.1.1;omega)));have G8_21:=Lib.hid (hT.blk G8_20.out (fun e => e.2.ne G8_20.out (by decide) rfl));clear ho hb2 hT))
  have MQ : Hid (0 ≤ cnt4 V 1 ∧ cnt4 V 1 + offEvent E E.length ≤ 50000000):=Lib.hid ⟨cnt4_nn S8V.out.marks,cnt_ev S8V.out E8.out⟩
  obtain ⟨qm,hqm⟩ : ∃ qm,qm = cnt4 V 1:=⟨_,rfl⟩
  rw [← hqm] at MQ
  have HQM:=Lib.hid hqm
  rw [← hqm]
  clear hqm
  go_upto_region 19 with (first | (go_at_call 47;refine (markEvents_v w6 w21 _ _ E qm HT_21.out (Kd.S_lower HE_21.out HTG.out) MQ.out.1 MQ.out.2 EL.out.1 EL.out.2).mono ?_;rintro e w22 ⟨rfl,hr,hb2,hT⟩;have HE_22:=Lib.hid hr;have HB_22:=Lib.hid (hT.below HB_21.out HB_21.out.size (fun k hk => by have h1:=hk.2.1;have h2:=HB_6.out.size;have h3:=HTG.out;omega));have G2_22:=Lib.hid (hT.blk G2_21.out (fun e => by obtain ⟨_,_,_,q,hq,cs,hc⟩:=e;have h9:=G2_10.out;rw [hc] at h9;cases h9;exact absurd hq (by decide)));have G6_22:=Lib.hid (hT.blk G6_21.out (fun e => by obtain ⟨_,_,_,q,hq,cs,hc⟩:=e;have h9:=G6_10.out;rw [hc] at h9;cases h9;exact absurd hq (by decide)));have HT_22:=Lib.hid hb2;have G7_22:=Lib.hid (hT.blk G7_21.out (fun e => by obtain ⟨_,_,_,q,hq,cs,hc⟩:=e;have h9:=G7_10.out;rw [hc] at h9;cases h9;exact absurd hq (by decide)));have HO_22:=Lib.hid (HO_21.out.tch hT (fun k hk e => by have h1:=hk.1;have h2:=e.1;omega));have G8_22:=Lib.hid (hT.blk G8_21.out (fun e => by have h1:=e.2.2.1;have h2:=HEg8.out;omega));clear hr hb2 hT))
  go_upto_region 21 with (first | ((with_reducible refine gate_dst (N:=70) rfl ?_);refine load_all rfl rfl (g:=g8) rfl G8_22.out hu32.out (by rw [HO_22.out.read.len];kernel_rfl) ?_) | (go_at_call 23;refine (heldHost_w V 1 S8V.out.marks w22 Cg HO_22.out.read).mono ?_;rintro e w23 ⟨rfl,hb⟩;rw [← HQM.out];have HB_23:=Lib.hid (below_then HB_22.out HB_22.out.size hb);have G2_23:=Lib.hid (blk_below G2_22.out hb);have G6_23:=Lib.hid (blk_below G6_22.out hb);have HT_23:=Lib.hid (below_then HT_22.out HT_22.out.size hb);have G7_23:=Lib.hid (blk_below G7_22.out hb);have HO_23:=Lib.hid (HO_22.out.below hb);have HE_23:=Lib.hid (Kd.S_below HE_22.out hb);have G8_23:=Lib.hid (blk_below G8_22.out hb);clear hb))
  have c20 : decide (qm < 0) = false:=decide_eq_false (by have:=MQ.out;omega)
  go_upto_region 23 with (fail)
  obtain ⟨Em,hEm⟩ : ∃ Em,Em = markEvents qm E:=⟨_,rfl⟩
  have HEM:=Lib.hid hEm
  have HEL : Hid (Em.length = E.length):=Lib.hid (by rw [hEm,markEvents_len])
  rw [← hEm] at HE_23
  clear hEm
  go_upto_region 24 with (first | (go_at_call 48;go_loud (have hc:=heldEventS_v E qm MQ.out.1 MQ.out.2 EL.out.1 EL.out.2 Em HEM.out w23 Ag cg (Kd.S_reads' HE_23.out).2.2 (by rw [HEL.out];exact (Kd.S_reads' HE_23.out).2.1);rw [HEL.out] at hc;refine hc.mono ?_;rintro e w24 ⟨rfl,hb⟩;have HB_24:=Lib.hid (below_then HB_23.out HB_23.out.size hb);have G2_24:=Lib.hid (blk_below G2_23.out hb);have G6_24:=Lib.hid (blk_below G6_23.out hb);have HT_24:=Lib.hid (below_then HT_23.out HT_23.out.size hb);have G7_24:=Lib.hid (blk_below G7_23.out hb);have HO_24:=Lib.hid (HO_23.out.below hb);have HE_24:=Lib.hid (Kd.S_below HE_23.out hb);have G8_24:=Lib.hid (blk_below G8_23.out hb);clear hb)))
  obtain ⟨cq,hcq⟩ : ∃ cq,cq = qm + offEvent E E.length:=⟨_,rfl⟩
  rw [← hcq]
  have c24 : decide (cq < 0) = false:=decide_eq_false (by rw [hcq];have h1:=MQ.out.1;have h2:=offEvent_nn E E.length;omega)
  have c22 : (cq != cq) = false:=bne_self_eq_false _
  clear hcq
  go_upto_region 28 with (fail)
  go_upto_region 29 with (first | ((with_reducible refine gate_dst (N:=84) rfl ?_);refine load_all rfl rfl (g:=g2) rfl G2_24.out hu63.out HI0.out ?_) | (go_at_call 34;refine (toHost_v x0 F.out w24 C0 (HK.out _ HB_24.out)).mono ?_;rintro e w25 ⟨Cz,rfl,ho,hb⟩;rw [← HH.out] at ho;have HZ_25:=Lib.hid ho.bound;have HB_25:=Lib.hid (below_then HB_24.out HB_24.out.size hb);have G2_25:=Lib.hid (blk_below G2_24.out hb);have G6_25:=Lib.hid (blk_below G6_24.out hb);have HT_25:=Lib.hid (below_then HT_24.out HT_24.out.size hb);clear ho hb) | (go_at_call 30;refine (implDrain_v h o o1 o2 o3 o4 OK.out V HV1.out E HE1.out w25 Cz HZ_25.out.read SM.out).mono ?_;rintro e w26 ⟨Ch,Ah,ch,mh,rfl,ho,he,hb⟩;have HP_26:=Lib.hid ho.bound;have HF_26:=Lib.hid (Kd.S_bound he);clear ho he;have HB_26:=Lib.hid (below_then HB_25.out HB_25.out.size hb);have G2_26:=Lib.hid (blk_below G2_25.out hb);have G6_26:=Lib.hid (blk_below G6_25.out hb);have HT_26:=Lib.hid (below_then HT_25.out HT_25.out.size hb);clear hb) | ((with_reducible refine gate_dst (N:=12) rfl ?_);refine box_event ?hg (N:=12) ?hd (cs:=⟨[.int .i64 0, .int .i64 0, .int .i64 0, .int .i64 0, .slice none 0 0, .slice none 0 0, .slice none 0 0, .slice none 0 0, .int .i64 0, .int .i64 0]⟩) (t:=32) ?hr ?_;(case hd => rfl);(case hg => rfl);(case hr => first | (go_simp;done) | (go_simp;rfl));intro g12 hg w27 hbox hb;have HB_27:=Lib.hid (below_then HB_26.out HB_26.out.size hb);have G2_27:=Lib.hid (blk_below G2_26.out hb);have G6_27:=Lib.hid (blk_below G6_26.out hb);have HT_27:=Lib.hid (below_then HT_26.out HT_26.out.size hb);have HP_27:=Lib.hid (HP_26.out.below hb);have HF_27:=Lib.hid (Kd.S_below HF_26.out hb);have Z_27:=Lib.hid hbox;have HEg12:=Lib.hid hg;have HNg12 : Hid (∀ k o,w26.heap[k]? = some o → k ≠ g12):=Lib.hid (fun k o h e => by have h1:=blk_lt h;omega);have LOg12 : Hid (w.heap.size ≤ g12):=Lib.hid (by rw [hg];exact HB_26.out.size);have LTg12 : Hid (w6.heap.size ≤ g12):=Lib.hid (by rw [hg];exact HT_26.out.size);clear hg hbox hb) | ((with_reducible refine gate_store (t:=32) (p:=12) rfl ?_);refine store_all rfl rfl rfl (g:=g12) (C:=Ch) rfl rfl Z_27.out (by rw [HP_27.out.read.len];kernel_rfl) (HOwn.one HP_27.out) HP_27.out.read.len.symm ?_;intro w28 hx hT;have G12_28:=Lib.hid hx;have HB_28:=Lib.hid (hT.below HB_27.out HB_27.out.size (fun k hk => by rw [hk];exact LOg12.out));have G6_28:=Lib.hid (hT.blk G6_27.out (fun e => HNg12.out _ _ G6_26.out e));have HT_28:=Lib.hid (hT.below HT_27.out HT_27.out.size (fun k hk => by rw [hk];exact LTg12.out));have HP_28:=Lib.hid (HP_27.out.tch hT (fun k hk e => by have h1:=hk.2.2.1;have h2:=HEg12.out;omega));have HF_28:=Lib.hid (S_tch HF_27.out Z_27.out (by decide) hT);clear hx hT))
  go_wp2_with (first | ((with_reducible refine gate_dst (N:=89) rfl ?_);refine load_all rfl rfl (g:=g12) rfl G12_28.out hu32.out (by rw [HP_28.out.read.len];kernel_rfl) ?_) | ((with_reducible refine gate_dst (N:=90) rfl ?_);refine load_all rfl rfl (g:=g6) rfl G6_28.out hu32.out (by rw [HWT.out.len];kernel_rfl) ?_) | (go_at_call 19;refine (eqHost_v V S8V.out.sm w28 Ch Cw HP_28.out.read (HWT.out.below HT_28.out)).mono ?_;rintro e w29 ⟨rfl,hb⟩;have HB_29:=Lib.hid (below_then HB_28.out HB_28.out.size hb);have HT_29:=Lib.hid (below_then HT_28.out HT_28.out.size hb);have G6_29:=Lib.hid (blk_below G6_28.out hb);have HP_29:=Lib.hid (HP_28.out.below hb);have HF_29:=Lib.hid (Kd.S_below HF_28.out hb);have G12_29:=Lib.hid (blk_below G12_28.out hb);clear hb) | (go_at_call 46;refine (eqEventS_v E EL.out.1 EL.out.2 w29 Ah Aw ch cw (Kd.S_reads' HF_29.out).2.2 (Kd.S_reads' HF_29.out).2.1 (Kd.C_below HWE.out HT_29.out) HWL.out).mono ?_;rintro e w30 ⟨rfl,hb⟩;have HB_30:=Lib.hid (below_then HB_29.out HB_29.out.size hb);have HT_30:=Lib.hid (below_then HT_29.out HT_29.out.size hb);have G6_30:=Lib.hid (blk_below G6_29.out hb);have HP_30:=Lib.hid (HP_29.out.below hb);have HF_30:=Lib.hid (Kd.S_below HF_29.out hb);have G12_30:=Lib.hid (blk_below G12_29.out hb);clear hb))
  go_ret
  exact ⟨rfl,HB_30.out⟩
end Go.Proofs.Ytcaefabbcjlkdaa.Pure
