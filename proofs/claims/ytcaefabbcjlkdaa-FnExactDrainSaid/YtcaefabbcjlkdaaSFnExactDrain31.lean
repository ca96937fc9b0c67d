/- Texts of the proof of FnExactDrain, joined. -/
import Derived.Test.YtcaefabbcjlkdaaSFnExactDrain30
import Derived.Deep.RegionHeld
import Derived.Test.YtcaefabbcjlkdaaSFnExactDrain22
import Derived.Test.YtcaefabbcjlkdaaSFnExactDrain1
import Derived.Test.YtcaefabbcjlkdaaSFnExactDrain28
namespace Go.Proofs.Ytcaefabbcjlkdaa.P
open Go Go.RowKit Go.Proofs.YtcaefabbcjlkdaaW.PrintWords Go.Proofs.YtcaefabbcjlkdaaW.PrintLast Go.Proofs.YtcaefabbcjlkdaaW.PrintMore
set_option linter.unusedVariables false
set_option linter.unusedSimpArgs false
theorem len_run {P : Program} {W : World} {t kt et : TypeId} {m n : Nat} {f : Int → Option Int} (hm : P.underlying t = some (.map kt et)) (h : MapAt W m f n) (ty : TypeId) : Sem.run P (Builtin.len_ #[t] ty #[.map (some m)]) W = .ok (.int .i64 n) W:=by
 obtain ⟨es,cl,hb,_,_,_,hz⟩:=h
 have e : Sem.run P (Builtin.len_ #[t] ty #[.map (some m)]) W = (Builtin.len_ #[t] ty #[.map (some m)]).run P W:=rfl
 rw [e]
 simp [Builtin.len_,run_underlying hm,Go.MapKept.run_getObj_map hb,Result.andThen,hz,goInt]
theorem isF {o : Bool} {p : Prop} (h : o = true ↔ p) (hn : ¬ p) : o = false:=by
 cases o with
 | false => rfl
 | true => exact absurd (h.1 rfl) hn
theorem zeroFrame_at (x : S45) (A : Option Addr) (c : Nat) (w : World) (z : Bool) (hz : zeroB x = z) :
  Calls Try.prog 143 #[.agg #[.bool x.f0, .int .u32 x.f1, .bool x.f2, .int .i64 x.f3, .slice A x.f4.length c]] w fun e w' => e = .returned (.bool z) ∧ Below w.heap.size w w':=by
 rw [← hz];exact zeroFrame_v x A c w
theorem validFrame_at (x : S45) (A : Option Addr) (c : Nat) (w : World) (z : Bool) (hz : valF x = z) (hn : x.f4.length ≤ 10000000) :
  Calls Try.prog 119 #[.agg #[.bool x.f0, .int .u32 x.f1, .bool x.f2, .int .i64 x.f3, .slice A x.f4.length c]] w fun e w' => e = .returned (.bool z) ∧ Below w.heap.size w w':=by
 rw [← hz];exact impl_ValidFrame.any x.f0 x.f1 x.f2 x.f3 A c x.f4.length w (Nat.le_trans hn (by decide))
set_option maxRecDepth 100000 in
set_option maxHeartbeats 8000000 in
theorem goodBoxes_v (h : HV) (o : Bool) (ho : o = true ↔ GoodB h.stamp h.bs) (w : World) (C : List Value) (hR : HRead w h C) (hS : HSm h) :
  Calls Try.prog 117 #[.agg ⟨C⟩] w fun e w' => e = .returned (.bool o) ∧ Below w.heap.size w w':=by
 obtain ⟨Af,cf,Ab,cb,Aq,cq,Ae,ce,rfl,_,_,rb,lb,_,_,_,_⟩:=hR
 have RB:=Lib.hid rb
 have HO:=Lib.hid ho
 have SM:=Lib.hid hS
 clear rb ho hS
 have HB_0 : Hid (Below w.heap.size w w):=Lib.hid (Below.refl _ _)
 go_enter Try.func117,Try.ntmps117
 go_upto_region 1 with (first | ((with_reducible refine gate_dst (N:=1) rfl ?_);refine box_event ?hg (N:=1) ?hd (cs:=⟨hostC h (.slice Af h.fs.length cf) (.slice Ab h.bs.length cb) (.slice Aq h.fr.length cq) (.slice Ae h.ev.length ce)⟩) (t:=32) ?hr ?_;(case hd => rfl);(case hg => rfl);(case hr => first | (go_simp;done) | (go_simp;rfl));intro g1 hg w1 hbox hb;have LO_HB_g1 : Hid (w.heap.size ≤ g1):=Lib.hid (by rw [hg];exact HB_0.out.size);have HEg1:=Lib.hid hg;have HB_1:=Lib.hid (below_then HB_0.out HB_0.out.size hb);have Xg1_1:=Lib.hid hbox;clear hg hbox hb))
 go_upto_region 2 with (first | ((with_reducible refine gate_dst (N:=11) rfl ?_);refine map_event rfl ?hr ?_;(case hr => first | (go_simp;done) | (go_simp;rfl));intro m3 hm w2 hmap hb;have LMm3 : Hid (w.heap.size ≤ m3):=Lib.hid (by rw [hm];exact HB_1.out.size);have NE_g1_m3 : Hid (g1 ≠ m3):=Lib.hid (fun e => by have h1:=blk_lt Xg1_1.out;omega);have HB_2:=Lib.hid (below_then HB_1.out HB_1.out.size hb);have Xg1_2:=Lib.hid (blk_below Xg1_1.out hb);have M3_2:=Lib.hid (MapAt.new hmap);clear hm hmap hb) | ((with_reducible refine gate_dst (N:=12) rfl ?_);refine map_event rfl ?hr ?_;(case hr => first | (go_simp;done) | (go_simp;rfl));intro m4 hm w3 hmap hb;have LMm4 : Hid (w.heap.size ≤ m4):=Lib.hid (by rw [hm];exact HB_2.out.size);have NE_g1_m4 : Hid (g1 ≠ m4):=Lib.hid (fun e => by have h1:=blk_lt Xg1_2.out;omega);have NE_m3_m4 : Hid (m3 ≠ m4):=Lib.hid (fun e => by have h1:=M3_2.out.lt;omega);have HB_3:=Lib.hid (below_then HB_2.out HB_2.out.size hb);have Xg1_3:=Lib.hid (blk_below Xg1_2.out hb);have M3_3:=Lib.hid (M3_2.out.below hb);have M4_3:=Lib.hid (MapAt.new hmap);clear hm hmap hb))
 have y5 : w3.cell? ⟨g1,5,none⟩ = some (.slice Ab h.bs.length cb):=blk_cell Xg1_3.out 5
 go_wp2_with (fail)
 clear y5
 go_loopw [16,5] (fun v16 v5 wr => ∃ i : Nat,i ≤ h.bs.length ∧ v16 = .int .i64 i ∧ v5 = .int .i64 (busyN h.bs i) ∧ Aside0 (∀ j,j < i → boxOk h.stamp (bxAt h.bs j)) ∧ Aside0 (MapAt wr m3 (keyUp (·.f1) h.bs i).1 (keyUp (·.f1) h.bs i).2) ∧ Aside0 (MapAt wr m4 (keyUp (·.f2) h.bs i).1 (keyUp (·.f2) h.bs i).2) ∧ Aside0 ((keyUp (·.f1) h.bs i).2 = (keyUp (·.f2) h.bs i).2) ∧ Aside0 (wr.heap[g1]? = some (.cells ⟨hostC h (.slice Af h.fs.length cf) (.slice Ab h.bs.length cb) (.slice Aq h.fr.length cq) (.slice Ae h.ev.length ce)⟩ 32 (0,0))) ∧ Aside0 (Below w.heap.size w wr)) (fun v16 _ _ => h.bs.length - (intOf v16).toNat)
 case atStart => exact ⟨0,Nat.zero_le _,rfl,rfl,⟨fun j hj => absurd hj (Nat.not_lt_zero _)⟩,⟨M3_3.out⟩,⟨M4_3.out⟩,⟨rfl⟩,⟨Xg1_3.out⟩,⟨HB_3.out⟩⟩
 case round =>
  clear M3_3 M4_3 Xg1_3 HB_3
  obtain ⟨i,hi,rfl,rfl,HONE,HM3,HM4,HEQ,HX,HB⟩:=hrel
  by_cases hlt : i < h.bs.length
  ·have b2 : decide ((i : Int) < (h.bs.length : Int)) = true:=decide_eq_true (by omega)
   have p5 : (0 ≤ (i : Int)) = True:=eq_true (by omega)
   have q5 : ((i : Int) < (h.bs.length : Int)) = True:=eq_true (by omega)
   have qn : (i < h.bs.length) = True:=eq_true hlt
   have hn : wrap64 ((i : Int) + 1) = (i : Int) + 1:=by have:=SM.out.l2;unfold wrap64;omega
   have HLT:=Lib.hid hlt
   have HI:=Lib.hid hi
   have HN:=Lib.hid hn
   obtain ⟨ad,A8,c8,ea,k0,k1,k2,k3,k4,k5,k6,k7,l8,g8⟩:=at_T87 (Kd.C_below RB.out HB.out) (i : Int) (by omega) (by omega)
   subst ea
   clear hlt hi l8 g8
   rw [Int.toNat_natCast] at k0 k1 k2 k3 k4 k5 k6 k7
   obtain ⟨b,hb⟩ : ∃ b,b = rd_T87 h.bs (i : Int):=⟨_,rfl⟩
   rw [← hb] at k0 k1 k2 k3 k4 k5 k6 k7
   have HBE:=Lib.hid hb
   have HBX : Hid (b = bxAt h.bs i):=Lib.hid hb
   have HD8 : Hid (b.f3.f4.length ≤ 10000000):=Lib.hid (by rw [hb];exact SM.out.d2 _ (List.mem_of_getElem? (getD_at h.bs i z87 HLT.out)))
   clear hb
   go_upto_region 6 with (first | ((with_reducible refine gate_dst (N:=7) rfl ?_);refine box_event ?hg (N:=7) ?hd (cs := #[.int .i64 0, .int .i64 0, .int .i64 0, .bool false, .int .u32 0, .bool false, .int .i64 0, .slice none 0 0]) (t:=87) ?hr ?_;(case hd => rfl);(case hg => rfl);(case hr => first | (go_simp;done) | (go_simp;rfl));intro gb hg w1 hbox hb;have LO_HB_gb : Hid (w.heap.size ≤ gb):=Lib.hid (by rw [hg];exact HB.out.size);have NE_g1_gb : Hid (g1 ≠ gb):=Lib.hid (fun e => by have h1:=blk_lt HX.out;omega);have HEgb:=Lib.hid hg;have HB_1:=Lib.hid (below_then HB.out HB.out.size hb);have X_1:=Lib.hid (blk_below HX.out hb);have M3_1:=Lib.hid (HM3.out.below hb);have M4_1:=Lib.hid (HM4.out.below hb);have Xgb_1:=Lib.hid hbox;clear hg hbox hb) | ((with_reducible refine gate_store (t:=87) (p:=7) rfl ?_);refine store_box rfl rfl rfl (g:=gb) (j:=0) (cs := #[.int .i64 0, .int .i64 0, .int .i64 0, .bool false, .int .u32 0, .bool false, .int .i64 0, .slice none 0 0]) (cs':=⟨[.int .i64 b.f0, .int .i64 b.f1, .int .i64 b.f2, .bool b.f3.f0, .int .u32 b.f3.f1, .bool b.f3.f2, .int .i64 b.f3.f3, .slice A8 b.f3.f4.length c8]⟩) (seg := [.int .i64 b.f0, .int .i64 b.f1, .int .i64 b.f2, .bool b.f3.f0, .int .u32 b.f3.f1, .bool b.f3.f2, .int .i64 b.f3.f3, .slice A8 b.f3.f4.length c8]) rfl rfl Xgb_1.out rfl (by kernel_rfl) rfl rfl rfl ?_;intro w2 hx hT;have HB_2:=Lib.hid (hT.below HB_1.out HB_1.out.size (fun k hk => by rw [hk];exact LO_HB_gb.out));have X_2:=Lib.hid (hT.blk X_1.out NE_g1_gb.out);have M3_2:=Lib.hid (M3_1.out.tch hT (fun e => by have h1:=HM3.out.lt;have h2:=HEgb.out;omega));have M4_2:=Lib.hid (M4_1.out.tch hT (fun e => by have h1:=HM4.out.lt;have h2:=HEgb.out;omega));have Xgb_2:=Lib.hid hx;clear hx hT))
   clear k0 k1 k2 k3 k4 k5 k6 k7
   have y0 : w2.cell? ⟨gb,0,none⟩ = some (.int .i64 b.f0):=blk_cell Xgb_2.out 0
   have y1 : w2.cell? ⟨gb,1,none⟩ = some (.int .i64 b.f1):=blk_cell Xgb_2.out 1
   have y2 : w2.cell? ⟨gb,2,none⟩ = some (.int .i64 b.f2):=blk_cell Xgb_2.out 2
   have y3 : w2.cell? ⟨gb,3,none⟩ = some (.bool b.f3.f0):=blk_cell Xgb_2.out 3
   have y4 : w2.cell? ⟨gb,4,none⟩ = some (.int .u32 b.f3.f1):=blk_cell Xgb_2.out 4
   have y5 : w2.cell? ⟨gb,5,none⟩ = some (.bool b.f3.f2):=blk_cell Xgb_2.out 5
   have y6 : w2.cell? ⟨gb,6,none⟩ = some (.int .i64 b.f3.f3):=blk_cell Xgb_2.out 6
   have y7 : w2.cell? ⟨gb,7,none⟩ = some (.slice A8 b.f3.f4.length c8):=blk_cell Xgb_2.out 7
   have n9 : w2.cell? ⟨g1,9,none⟩ = some (.int .i64 h.stamp):=blk_cell X_2.out 9
   by_cases hz : b.f0 = 0
   ·have e0 : (b.f0 == 0) = true:=beq_iff_eq.2 hz
    have HZ:=Lib.hid hz
    clear hz
    by_cases q1 : b.f1 = 0
    rotate_left
    ·have e1 : (b.f1 != 0) = true:=bne_iff_ne.2 q1
     have Q1:=Lib.hid q1
     clear q1
     go_wp2_with (fail)
     go_ret
     exact ⟨by rw [isF HO.out (fun G => (by have h1:=(G.one i HLT.out).1;rw [← HBX.out] at h1;exact Q1.out (h1 HZ.out).1))];rfl,HB_2.out⟩
    have e1 : (b.f1 != 0) = false:=by rw [q1];rfl
    have Q1:=Lib.hid q1
    clear q1
    by_cases q2 : b.f2 = 0
    rotate_left
    ·have e2 : (b.f2 != 0) = true:=bne_iff_ne.2 q2
     have Q2:=Lib.hid q2
     clear q2
     go_wp2_with (fail)
     go_ret
     exact ⟨by rw [isF HO.out (fun G => (by have h1:=(G.one i HLT.out).1;rw [← HBX.out] at h1;exact Q2.out (h1 HZ.out).2.1))];rfl,HB_2.out⟩
    have e2 : (b.f2 != 0) = false:=by rw [q2];rfl
    have Q2:=Lib.hid q2
    clear q2
    cases q3 : zeroB b.f3 with
    | false =>
     have Q3:=Lib.hid q3
     clear q3
     go_wp2_with (first | (go_at_call 143;refine (zeroFrame_at b.f3 A8 c8 w2 false Q3.out).mono ?_;rintro e w3 ⟨rfl,hb⟩;have HB_3:=Lib.hid (below_then HB_2.out HB_2.out.size hb);have X_3:=Lib.hid (blk_below X_2.out hb);have M3_3:=Lib.hid (M3_2.out.below hb);have M4_3:=Lib.hid (M4_2.out.below hb);have Xgb_3:=Lib.hid (blk_below Xgb_2.out hb);clear hb))
     go_ret
     exact ⟨by rw [isF HO.out (fun G => (by have h1:=(G.one i HLT.out).1;rw [← HBX.out] at h1;exact by have h2:=(h1 HZ.out).2.2;rw [Q3.out] at h2;cases h2))];rfl,HB_3.out⟩
    | true =>
     have Q3:=Lib.hid q3
     clear q3
     go_wp2_with (first | (go_at_call 143;refine (zeroFrame_at b.f3 A8 c8 w2 true Q3.out).mono ?_;rintro e w3 ⟨rfl,hb⟩;have HB_3:=Lib.hid (below_then HB_2.out HB_2.out.size hb);have X_3:=Lib.hid (blk_below X_2.out hb);have M3_3:=Lib.hid (M3_2.out.below hb);have M4_3:=Lib.hid (M4_2.out.below hb);have Xgb_3:=Lib.hid (blk_below Xgb_2.out hb);clear hb))
     go_roundw
     case rel =>
      have hz : (bxAt h.bs i).f0 = 0:=by rw [← HBX.out];exact HZ.out
      have hkk : ∀ g,keyUp g h.bs (i + 1) = keyUp g h.bs i:=fun g => by rw [keyUp,if_pos hz]
      exact ⟨i + 1,HLT.out,by rw [HN.out];rfl,by rw [busyN,if_pos hz],⟨fun j hj => by by_cases e : j = i;subst e;exact (by rw [← HBX.out];exact ⟨fun _ => ⟨Q1.out,Q2.out,Q3.out⟩,fun h => absurd HZ.out h⟩);exact HONE.out j (by omega)⟩,⟨by rw [hkk];exact M3_3.out⟩,⟨by rw [hkk];exact M4_3.out⟩,⟨by rw [hkk,hkk];exact HEQ.out⟩,⟨X_3.out⟩,⟨HB_3.out⟩⟩
     case measure => rw [HN.out];have:=HLT.out;simp [intOf];omega
   ·have e0 : (b.f0 == 0) = false:=beq_eq_false_iff_ne.2 hz
    have HZ:=Lib.hid hz
    clear hz
    by_cases r0 : b.f0 < 0
    ·have s0 : decide (b.f0 < 0) = true:=decide_eq_true r0
     have R0:=Lib.hid r0
     clear r0
     go_wp2_with (fail)
     go_ret
     exact ⟨by rw [isF HO.out (fun G => (by have h1:=(G.one i HLT.out).2;rw [← HBX.out] at h1;have h2:=h1 HZ.out;exact by have:=R0.out;omega))];rfl,HB_2.out⟩
    have s0 : decide (b.f0 < 0) = false:=decide_eq_false r0
    have R0:=Lib.hid r0
    clear r0
    by_cases r1 : b.f0 > 3
    ·have s1 : decide (b.f0 > 3) = true:=decide_eq_true r1
     have R1:=Lib.hid r1
     clear r1
     go_wp2_with (fail)
     go_ret
     exact ⟨by rw [isF HO.out (fun G => (by have h1:=(G.one i HLT.out).2;rw [← HBX.out] at h1;have h2:=h1 HZ.out;exact by have:=R1.out;omega))];rfl,HB_2.out⟩
    have s1 : decide (b.f0 > 3) = false:=decide_eq_false r1
    have R1:=Lib.hid r1
    clear r1
    by_cases r2 : b.f1 < 0
    ·have s2 : decide (b.f1 < 0) = true:=decide_eq_true r2
     have R2:=Lib.hid r2
     clear r2
     go_wp2_with (fail)
     go_ret
     exact ⟨by rw [isF HO.out (fun G => (by have h1:=(G.one i HLT.out).2;rw [← HBX.out] at h1;have h2:=h1 HZ.out;exact by have:=R2.out;omega))];rfl,HB_2.out⟩
    have s2 : decide (b.f1 < 0) = false:=decide_eq_false r2
    have R2:=Lib.hid r2
    clear r2
    by_cases r3 : b.f1 > 9999
    ·have s3 : decide (b.f1 > 9999) = true:=decide_eq_true r3
     have R3:=Lib.hid r3
     clear r3
     go_wp2_with (fail)
     go_ret
     exact ⟨by rw [isF HO.out (fun G => (by have h1:=(G.one i HLT.out).2;rw [← HBX.out] at h1;have h2:=h1 HZ.out;exact by have:=R3.out;omega))];rfl,HB_2.out⟩
    have s3 : decide (b.f1 > 9999) = false:=decide_eq_false r3
    have R3:=Lib.hid r3
    clear r3
    by_cases r4 : b.f2 < 0
    ·have s4 : decide (b.f2 < 0) = true:=decide_eq_true r4
     have R4:=Lib.hid r4
     clear r4
     go_wp2_with (fail)
     go_ret
     exact ⟨by rw [isF HO.out (fun G => (by have h1:=(G.one i HLT.out).2;rw [← HBX.out] at h1;have h2:=h1 HZ.out;exact by have:=R4.out;omega))];rfl,HB_2.out⟩
    have s4 : decide (b.f2 < 0) = false:=decide_eq_false r4
    have R4:=Lib.hid r4
    clear r4
    by_cases r5 : b.f2 ≥ h.stamp
    ·have s5 : decide (b.f2 ≥ h.stamp) = true:=decide_eq_true r5
     have R5:=Lib.hid r5
     clear r5
     go_wp2_with (fail)
     go_ret
     exact ⟨by rw [isF HO.out (fun G => (by have h1:=(G.one i HLT.out).2;rw [← HBX.out] at h1;have h2:=h1 HZ.out;exact by have:=R5.out;omega))];rfl,HB_2.out⟩
    have s5 : decide (b.f2 ≥ h.stamp) = false:=decide_eq_false r5
    have R5:=Lib.hid r5
    clear r5
    cases q3 : valF b.f3 with
    | false =>
     have Q3:=Lib.hid q3
     clear q3
     go_wp2_with (first | (go_at_call 119;refine (validFrame_at b.f3 A8 c8 w2 false Q3.out HD8.out).mono ?_;rintro e w3 ⟨rfl,hb⟩;have HB_3:=Lib.hid (below_then HB_2.out HB_2.out.size hb);have X_3:=Lib.hid (blk_below X_2.out hb);have M3_3:=Lib.hid (M3_2.out.below hb);have M4_3:=Lib.hid (M4_2.out.below hb);have Xgb_3:=Lib.hid (blk_below Xgb_2.out hb);clear hb))
     go_ret
     exact ⟨by rw [isF HO.out (fun G => (by have h1:=(G.one i HLT.out).2;rw [← HBX.out] at h1;have h2:=h1 HZ.out;exact by have h3:=h2.2.2.2.2.2.2;rw [Q3.out] at h3;cases h3))];rfl,HB_3.out⟩
    | true =>
     have Q3:=Lib.hid q3
     clear q3
     go_upto_region 11 with (first | (go_at_call 119;refine (validFrame_at b.f3 A8 c8 w2 true Q3.out HD8.out).mono ?_;rintro e w3 ⟨rfl,hb⟩;have HB_3:=Lib.hid (below_then HB_2.out HB_2.out.size hb);have X_3:=Lib.hid (blk_below X_2.out hb);have M3_3:=Lib.hid (M3_2.out.below hb);have M4_3:=Lib.hid (M4_2.out.below hb);have Xgb_3:=Lib.hid (blk_below Xgb_2.out hb);clear hb))
     clear y0 y1 y2 y3 y4 y5 y6 y7 n9
     obtain ⟨wd,hwd⟩ : ∃ wd,wd = w3.drew:=⟨_,rfl⟩
     have M3d : Hid (MapAt wd m3 (keyUp (·.f1) h.bs i).1 (keyUp (·.f1) h.bs i).2):=by rw [hwd];exact Lib.hid (M3_3.out.below (below_drew (Below.refl _ _)))
     have M4d : Hid (MapAt wd m4 (keyUp (·.f2) h.bs i).1 (keyUp (·.f2) h.bs i).2):=by rw [hwd];exact Lib.hid (M4_3.out.below (below_drew (Below.refl _ _)))
     have Xbd : Hid (wd.heap[gb]? = some (.cells ⟨[.int .i64 b.f0, .int .i64 b.f1, .int .i64 b.f2, .bool b.f3.f0, .int .u32 b.f3.f1, .bool b.f3.f2, .int .i64 b.f3.f3, .slice A8 b.f3.f4.length c8]⟩ 87 (0,0))):=by rw [hwd];exact Lib.hid (blk_drew Xgb_3.out)
     have Xd : Hid (wd.heap[g1]? = some (.cells ⟨hostC h (.slice Af h.fs.length cf) (.slice (some ad) h.bs.length cb) (.slice Aq h.fr.length cq) (.slice Ae h.ev.length ce)⟩ 32 (0,0))):=by rw [hwd];exact Lib.hid (blk_drew X_3.out)
     have HBd : Hid (Below w.heap.size w wd):=by rw [hwd];exact Lib.hid (below_drew HB_3.out)
     have NB3 : Hid (gb ≠ m3):=Lib.hid (fun e => by obtain ⟨_,_,h1,_⟩:=M3d.out;rw [← e,Xbd.out] at h1;cases h1)
     have NB4 : Hid (gb ≠ m4):=Lib.hid (fun e => by obtain ⟨_,_,h1,_⟩:=M4d.out;rw [← e,Xbd.out] at h1;cases h1)
     obtain ⟨wu,hup,hmu,hTu⟩:=update_run (P:=Try.prog) Try.underlying122 Try.underlying3 M3d.out b.f1 (i : Int)
     have M3u:=Lib.hid hmu
     have M4u:=Lib.hid (M4d.out.tch hTu (fun e => NE_m3_m4.out e.symm))
     have Xbu:=Lib.hid (hTu.blk Xbd.out NB3.out)
     have Xu:=Lib.hid (hTu.blk Xd.out NE_g1_m3.out)
     have HBu:=Lib.hid (hTu.below HBd.out HBd.out.size (fun k hk => by rw [hk];exact LMm3.out))
     clear hmu hTu
     obtain ⟨wv,hup2,hmu,hTu⟩:=update_run (P:=Try.prog) Try.underlying122 Try.underlying3 M4u.out b.f2 (i : Int)
     have M4v:=Lib.hid hmu
     have M3v:=Lib.hid (M3u.out.tch hTu NE_m3_m4.out)
     have Xbv:=Lib.hid (hTu.blk Xbu.out NB4.out)
     have Xv:=Lib.hid (hTu.blk Xu.out NE_g1_m4.out)
     have HBv:=Lib.hid (hTu.below HBu.out HBu.out.size (fun k hk => by rw [hk];exact LMm4.out))
     clear hmu hTu
     refine start_ (n:=10) (S:=fun w' : World => w'.heap[gb]? = some (.cells ⟨[.int .i64 b.f0, .int .i64 b.f1, .int .i64 b.f2, .bool b.f3.f0, .int .u32 b.f3.f1, .bool b.f3.f2, .int .i64 b.f3.f3, .slice A8 b.f3.f4.length c8]⟩ 87 (0,0))) (ds := [9]) #[false,false,false,false,false,false,false,false,false,false] (by kernel_rfl) rfl rfl (hwd ▸ Xbd.out) (fun hHeld => ?_)
     rw [← hwd] at hHeld ⊢
     clear hwd
     refine pure_ (i:=0) (N:=some 74) (v := ?_) (a' := ?_) #[true,false,false,false,false,false,false,false,false,false] rfl rfl (by kernel_rfl) (fun _ _ _ h => h) (Or.inl ⟨by rfl, ?_⟩) ?_ ?_
     rotate_left
     ·intro w'
      go_simp
      with_reducible rfl
     rotate_left
     ·simp only [Act.put,List.setIfInBounds_toArray,List.set_cons_zero,List.set_cons_succ,i64_w,i32_w]
      rfl
     refine pure_ (i:=1) (N:=some 75) (v := ?_) (a' := ?_) #[true,true,false,false,false,false,false,false,false,false] rfl rfl (by kernel_rfl) (fun _ _ _ h => h) (Or.inl ⟨by rfl, ?_⟩) ?_ ?_
     rotate_left
     ·intro w'
      go_simp
      with_reducible rfl
     rotate_left
     ·simp only [Act.put,List.setIfInBounds_toArray,List.set_cons_zero,List.set_cons_succ,i64_w,i32_w]
      rfl
     refine take_ (i:=2) (N:=some 76) (v := ?_) (a' := ?_) #[true,true,true,false,false,false,false,false,false,false] rfl rfl (by kernel_rfl) (fun _ _ _ h => h) (Or.inl ⟨by rfl, ?_⟩) hHeld ?_ ?_
     rotate_left
     ·intro w' s0
      have e0 : w'.cell? ⟨gb,1,none⟩ = some (.int .i64 b.f1):=blk_cell s0 1
      go_simp
      with_reducible rfl
     rotate_left
     ·simp only [Act.put,List.setIfInBounds_toArray,List.set_cons_zero,List.set_cons_succ,i64_w,i32_w]
      rfl
     refine pure_ (i:=3) (N:=some 77) (v := ?_) (a' := ?_) #[true,true,true,true,false,false,false,false,false,false] rfl rfl (by kernel_rfl) (fun _ _ _ h => h) (Or.inl ⟨by rfl, ?_⟩) ?_ ?_
     rotate_left
     ·intro w'
      go_simp
      with_reducible rfl
     rotate_left
     ·simp only [Act.put,List.setIfInBounds_toArray,List.set_cons_zero,List.set_cons_succ,i64_w,i32_w]
      rfl
     refine pure_ (i:=4) (N:=some 78) (v := ?_) (a' := ?_) #[true,true,true,true,true,false,false,false,false,false] rfl rfl (by kernel_rfl) (fun _ _ _ h => h) (Or.inl ⟨by rfl, ?_⟩) ?_ ?_
     rotate_left
     ·intro w'
      go_simp
      with_reducible rfl
     rotate_left
     ·simp only [Act.put,List.setIfInBounds_toArray,List.set_cons_zero,List.set_cons_succ,i64_w,i32_w]
      rfl
     refine take_ (i:=5) (N:=some 79) (v := ?_) (a' := ?_) #[true,true,true,true,true,true,false,false,false,false] rfl rfl (by kernel_rfl) (fun _ _ _ h => h) (Or.inl ⟨by rfl, ?_⟩) hHeld ?_ ?_
     rotate_left
     ·intro w' s0
      have e0 : w'.cell? ⟨gb,2,none⟩ = some (.int .i64 b.f2):=blk_cell s0 2
      go_simp
      with_reducible rfl
     rotate_left
     ·simp only [Act.put,List.setIfInBounds_toArray,List.set_cons_zero,List.set_cons_succ,i64_w,i32_w]
      rfl
     refine pure_ (i:=6) (N:=some 80) (v := ?_) (a' := ?_) #[true,true,true,true,true,true,true,false,false,false] rfl rfl (by kernel_rfl) (fun _ _ _ h => h) (Or.inl ⟨by rfl, ?_⟩) ?_ ?_
     rotate_left
     ·intro w'
      go_simp
      with_reducible rfl
     rotate_left
     ·simp only [Act.put,List.setIfInBounds_toArray,List.set_cons_zero,List.set_cons_succ,i64_w,i32_w]
      rfl
     refine pure_ (i:=7) (N:=some 81) (v := ?_) (a' := ?_) #[true,true,true,true,true,true,true,true,false,false] rfl rfl (by kernel_rfl) (fun _ _ _ h => h) (Or.inl ⟨by rfl, ?_⟩) ?_ ?_
     rotate_left
     ·intro w'
      go_simp
      with_reducible rfl
     rotate_left
     ·simp only [Act.put,List.setIfInBounds_toArray,List.set_cons_zero,List.set_cons_succ,i64_w,i32_w]
      rfl
     refine one_ (i:=8) (N:=none) #[true,true,true,true,true,true,true,true,true,false] rfl rfl (by kernel_rfl) (by decide) (fun K hK => ?_)
     refine skip_ (w1:=wu) (by rfl) rfl ?_ ?_
     ·go_simp
     refine hK.out _ _ Xbu.out (fun hHeld => ?_)
     clear hK K
     refine last_ (i:=9) (N:=none) #[true,true,true,true,true,true,true,true,true,true] rfl rfl (by kernel_rfl) (by decide) (fun K hK => ?_)
     refine skip_ (w1:=wv) (by rfl) rfl ?_ ?_
     ·go_simp
     refine hK.out _ _ ?_
     clear hK K
     refine done_ (by kernel_rfl) ?_
     clear hup hup2
     have hk1 : keyUp (·.f1) h.bs (i + 1) = (fun x => if x = b.f1 then some (i : Int) else (keyUp (·.f1) h.bs i).1 x,if ((keyUp (·.f1) h.bs i).1 b.f1).isSome then (keyUp (·.f1) h.bs i).2 else (keyUp (·.f1) h.bs i).2 + 1):=by rw [keyUp, ← HBX.out,if_neg HZ.out]
     have hk2 : keyUp (·.f2) h.bs (i + 1) = (fun x => if x = b.f2 then some (i : Int) else (keyUp (·.f2) h.bs i).1 x,if ((keyUp (·.f2) h.bs i).1 b.f2).isSome then (keyUp (·.f2) h.bs i).2 else (keyUp (·.f2) h.bs i).2 + 1):=by rw [keyUp, ← HBX.out,if_neg HZ.out]
     have N3 : Hid (MapAt wv m3 (keyUp (·.f1) h.bs (i + 1)).1 (keyUp (·.f1) h.bs (i + 1)).2):=Lib.hid (by rw [hk1];exact M3v.out)
     have N4 : Hid (MapAt wv m4 (keyUp (·.f2) h.bs (i + 1)).1 (keyUp (·.f2) h.bs (i + 1)).2):=Lib.hid (by rw [hk2];exact M4v.out)
     clear hk1 hk2 M3v M4v M3u M4u
     obtain ⟨n1,hn1⟩ : ∃ n,n = (keyUp (·.f1) h.bs (i + 1)).2:=⟨_,rfl⟩
     obtain ⟨n2,hn2⟩ : ∃ n,n = (keyUp (·.f2) h.bs (i + 1)).2:=⟨_,rfl⟩
     have HN1:=Lib.hid hn1
     have HN2:=Lib.hid hn2
     have z3 : ∀ ty,Sem.run Try.prog (Builtin.len_ #[122] ty #[.map (some m3)]) wv = .ok (.int .i64 n1) wv:=fun ty => by rw [hn1];exact len_run Try.underlying122 N3.out ty
     have z4 : ∀ ty,Sem.run Try.prog (Builtin.len_ #[122] ty #[.map (some m4)]) wv = .ok (.int .i64 n2) wv:=fun ty => by rw [hn2];exact len_run Try.underlying122 N4.out ty
     clear hn1 hn2
     have y0 : wv.cell? ⟨gb,0,none⟩ = some (.int .i64 b.f0):=blk_cell Xbv.out 0
     by_cases q : n1 = n2
     rotate_left
     ·have q' : ((n1 : Int) != (n2 : Int)) = true:=bne_iff_ne.2 (by omega)
      have QN:=Lib.hid q
      clear q
      go_wp2_with (fail)
      go_ret
      exact ⟨by rw [isF HO.out (fun G => QN.out (by rw [HN1.out,HN2.out,keyUp_all.2 (G.tag.less HLT.out),keyUp_all.2 (G.stamp.less HLT.out)]))];rfl,HBv.out⟩
     subst q
     have q' : ((n1 : Int) != (n1 : Int)) = false:=bne_self_eq_false _
     have HONE1 : Hid (∀ j,j < i + 1 → boxOk h.stamp (bxAt h.bs j)):=Lib.hid (fun j hj => by by_cases e : j = i;subst e;exact (by rw [← HBX.out];exact ⟨fun h => absurd h HZ.out,fun _ => ⟨by have:=R0.out;omega,by have:=R1.out;omega,by have:=R2.out;omega,by have:=R3.out;omega,by have:=R4.out;omega,by have:=R5.out;omega,Q3.out⟩⟩);exact HONE.out j (by omega))
     by_cases q1 : b.f0 = 1
     ·have e1 : (b.f0 != 1) = false:=by rw [q1];rfl
      have Q1:=Lib.hid q1
      clear q1
      go_wp2_with (fail)
      go_roundw
      case rel => exact ⟨i + 1,HLT.out,by rw [HN.out];rfl,by rw [busyN, ← HBX.out,if_neg HZ.out,if_pos Q1.out],⟨HONE1.out⟩,⟨N3.out⟩,⟨N4.out⟩,⟨by rw [← HN1.out, ← HN2.out]⟩,⟨Xv.out⟩,⟨HBv.out⟩⟩
      case measure => rw [HN.out];have:=HLT.out;simp [intOf];omega
     ·have e1 : (b.f0 != 1) = true:=bne_iff_ne.2 q1
      have Q1:=Lib.hid q1
      clear q1
      have hw : wrap64 ((busyN h.bs i : Int) + 1) = ((busyN h.bs i + 1 : Nat) : Int):=by have h1:=busyN_le h.bs i;have h2:=SM.out.l2;have h3:=HLT.out;unfold wrap64;omega
      go_wp2_with (fail)
      go_roundw
      case rel => exact ⟨i + 1,HLT.out,by rw [HN.out];rfl,by rw [busyN, ← HBX.out,if_neg HZ.out,if_neg Q1.out];first | rw [hw] | rfl,⟨HONE1.out⟩,⟨N3.out⟩,⟨N4.out⟩,⟨by rw [← HN1.out, ← HN2.out]⟩,⟨Xv.out⟩,⟨HBv.out⟩⟩
      case measure => rw [HN.out];have:=HLT.out;simp [intOf];omega
  ·have hii : i = h.bs.length:=by omega
   subst hii
   have b2 : decide ((h.bs.length : Int) < (h.bs.length : Int)) = false:=decide_eq_false (by omega)
   have y5 : wr.cell? ⟨g1,5,none⟩ = some (.slice Ab h.bs.length cb):=blk_cell HX.out 5
   go_wp2_with (fail)
   clear y5 b2
   go_loopw [96,8] (fun v96 v8 wr => ∃ i : Nat,i ≤ h.bs.length ∧ v96 = .int .i64 i ∧ v8 = .int .i64 (liveN h.bs i) ∧ Aside0 (MapAt wr m3 (keyUp (·.f1) h.bs h.bs.length).1 (keyUp (·.f1) h.bs h.bs.length).2) ∧ Aside0 (wr.heap[g1]? = some (.cells ⟨hostC h (.slice Af h.fs.length cf) (.slice Ab h.bs.length cb) (.slice Aq h.fr.length cq) (.slice Ae h.ev.length ce)⟩ 32 (0,0))) ∧ Aside0 (Below w.heap.size w wr)) (fun v96 _ _ => h.bs.length - (intOf v96).toNat)
   case atStart => exact ⟨0,Nat.zero_le _,rfl,rfl,⟨HM3.out⟩,⟨HX.out⟩,⟨HB.out⟩⟩
   case round =>
    clear HM3 HM4 HX HB hi
    obtain ⟨i,hi,rfl,rfl,HM3,HX,HB⟩:=hrel
    by_cases hlt : i < h.bs.length
    ·have b2 : decide ((i : Int) < (h.bs.length : Int)) = true:=decide_eq_true (by omega)
     have p5 : (0 ≤ (i : Int)) = True:=eq_true (by omega)
     have q5 : ((i : Int) < (h.bs.length : Int)) = True:=eq_true (by omega)
     have qn : (i < h.bs.length) = True:=eq_true hlt
     have hn : wrap64 ((i : Int) + 1) = (i : Int) + 1:=by have:=SM.out.l2;unfold wrap64;omega
     have HLT:=Lib.hid hlt
     have HI:=Lib.hid hi
     have HN:=Lib.hid hn
     obtain ⟨ad,A8,c8,ea,k0,k1,k2,k3,k4,k5,k6,k7,l8,g8⟩:=at_T87 (Kd.C_below RB.out HB.out) (i : Int) (by omega) (by omega)
     subst ea
     clear hlt hi l8 g8
     rw [Int.toNat_natCast] at k0 k1 k2 k3 k4 k5 k6 k7
     obtain ⟨b,hb⟩ : ∃ b,b = rd_T87 h.bs (i : Int):=⟨_,rfl⟩
     rw [← hb] at k0 k1 k2 k3 k4 k5 k6 k7
     have HBE:=Lib.hid hb
     have HBX : Hid (b = bxAt h.bs i):=Lib.hid hb
     have HD8 : Hid (b.f3.f4.length ≤ 10000000):=Lib.hid (by rw [hb];exact SM.out.d2 _ (List.mem_of_getElem? (getD_at h.bs i z87 HLT.out)))
     clear hb
     go_upto_region 21 with (first | ((with_reducible refine gate_dst (N:=10) rfl ?_);refine box_event ?hg (N:=10) ?hd (cs := #[.int .i64 0, .int .i64 0, .int .i64 0, .bool false, .int .u32 0, .bool false, .int .i64 0, .slice none 0 0]) (t:=87) ?hr ?_;(case hd => rfl);(case hg => rfl);(case hr => first | (go_simp;done) | (go_simp;rfl));intro gb hg w1 hbox hb;have LO_HB_gb : Hid (w.heap.size ≤ gb):=Lib.hid (by rw [hg];exact HB.out.size);have NE_g1_gb : Hid (g1 ≠ gb):=Lib.hid (fun e => by have h1:=blk_lt HX.out;omega);have HEgb:=Lib.hid hg;have HB_1:=Lib.hid (below_then HB.out HB.out.size hb);have X_1:=Lib.hid (blk_below HX.out hb);have M3_1:=Lib.hid (HM3.out.below hb);have Xgb_1:=Lib.hid hbox;clear hg hbox hb) | ((with_reducible refine gate_store (t:=87) (p:=10) rfl ?_);refine store_box rfl rfl rfl (g:=gb) (j:=0) (cs := #[.int .i64 0, .int .i64 0, .int .i64 0, .bool false, .int .u32 0, .bool false, .int .i64 0, .slice none 0 0]) (cs':=⟨[.int .i64 b.f0, .int .i64 b.f1, .int .i64 b.f2, .bool b.f3.f0, .int .u32 b.f3.f1, .bool b.f3.f2, .int .i64 b.f3.f3, .slice A8 b.f3.f4.length c8]⟩) (seg := [.int .i64 b.f0, .int .i64 b.f1, .int .i64 b.f2, .bool b.f3.f0, .int .u32 b.f3.f1, .bool b.f3.f2, .int .i64 b.f3.f3, .slice A8 b.f3.f4.length c8]) rfl rfl Xgb_1.out rfl (by kernel_rfl) rfl rfl rfl ?_;intro w2 hx hT;have HB_2:=Lib.hid (hT.below HB_1.out HB_1.out.size (fun k hk => by rw [hk];exact LO_HB_gb.out));have X_2:=Lib.hid (hT.blk X_1.out NE_g1_gb.out);have M3_2:=Lib.hid (M3_1.out.tch hT (fun e => by have h1:=HM3.out.lt;have h2:=HEgb.out;omega));have Xgb_2:=Lib.hid hx;clear hx hT))
     clear k0 k1 k2 k3 k4 k5 k6 k7
     have y0 : w2.cell? ⟨gb,0,none⟩ = some (.int .i64 b.f0):=blk_cell Xgb_2.out 0
     by_cases q1 : b.f0 = 0
     ·have e1 : (b.f0 != 0) = false:=by rw [q1];rfl
      have Q1:=Lib.hid q1
      clear q1
      go_wp2_with (fail)
      go_roundw
      case rel => exact ⟨i + 1,HLT.out,by rw [HN.out];rfl,by rw [liveN,if_pos (show (bxAt h.bs i).f0 = 0 by rw [← HBX.out];exact Q1.out)],⟨M3_2.out⟩,⟨X_2.out⟩,⟨HB_2.out⟩⟩
      case measure => rw [HN.out];have:=HLT.out;simp [intOf];omega
     ·have e1 : (b.f0 != 0) = true:=bne_iff_ne.2 q1
      have Q1:=Lib.hid q1
      clear q1
      have hw : wrap64 ((liveN h.bs i : Int) + 1) = ((liveN h.bs i + 1 : Nat) : Int):=by have h1:=liveN_le h.bs i;have h2:=SM.out.l2;have h3:=HLT.out;unfold wrap64;omega
      go_wp2_with (fail)
      go_roundw
      case rel => exact ⟨i + 1,HLT.out,by rw [HN.out];rfl,by rw [liveN,if_neg (show ¬ (bxAt h.bs i).f0 = 0 by rw [← HBX.out];exact Q1.out)];first | rw [hw] | rfl,⟨M3_2.out⟩,⟨X_2.out⟩,⟨HB_2.out⟩⟩
      case measure => rw [HN.out];have:=HLT.out;simp [intOf];omega
    ·have hii : i = h.bs.length:=by omega
     subst hii
     have b2 : decide ((h.bs.length : Int) < (h.bs.length : Int)) = false:=decide_eq_false (by omega)
     obtain ⟨n1,hn1⟩ : ∃ n,n = (keyUp (·.f1) h.bs h.bs.length).2:=⟨_,rfl⟩
     have HN1:=Lib.hid hn1
     obtain ⟨nb,hnb⟩ : ∃ n,n = busyN h.bs h.bs.length:=⟨_,rfl⟩
     obtain ⟨nl,hnl⟩ : ∃ n,n = liveN h.bs h.bs.length:=⟨_,rfl⟩
     have z3 : ∀ ty,Sem.run Try.prog (Builtin.len_ #[122] ty #[.map (some m3)]) wr = .ok (.int .i64 n1) wr:=fun ty => by rw [hn1];exact len_run Try.underlying122 HM3.out ty
     rw [← hnb, ← hnl]
     have HNB:=Lib.hid hnb
     have HNL:=Lib.hid hnl
     clear hn1 hnb hnl hi
     by_cases q1 : nb ≤ 1
     rotate_left
     ·have s1 : decide ((nb : Int) ≤ 1) = false:=decide_eq_false (by omega)
      have Q1:=Lib.hid q1
      clear q1
      go_wp2_with (fail)
      go_ret
      exact ⟨by rw [isF HO.out (fun G => Q1.out (by rw [HNB.out];exact G.busy))];rfl,HB.out⟩
     have s1 : decide ((nb : Int) ≤ 1) = true:=decide_eq_true (by omega)
     have Q1:=Lib.hid q1
     clear q1
     by_cases q2 : n1 = nl
     rotate_left
     ·have s2 : ((n1 : Int) == (nl : Int)) = false:=beq_eq_false_iff_ne.2 (by omega)
      have Q2:=Lib.hid q2
      clear q2
      go_wp2_with (fail)
      go_ret
      exact ⟨by rw [isF HO.out (fun G => Q2.out (by rw [HN1.out,HNL.out,keyUp_all.2 G.tag]))];rfl,HB.out⟩
     subst q2
     have s2 : ((n1 : Int) == (n1 : Int)) = true:=beq_self_eq_true _
     go_wp2_with (fail)
     go_ret
     have G : GoodB h.stamp h.bs:=⟨HONE.out,keyUp_all.1 (by rw [← HN1.out,HNL.out]),keyUp_all.1 (by rw [← HEQ.out, ← HN1.out,HNL.out]),by rw [← HNB.out];exact Q1.out⟩
     exact ⟨by rw [HO.out.2 G];rfl,HB.out⟩
set_option maxRecDepth 100000 in
set_option maxHeartbeats 8000000 in
theorem goodLists_v (h : HV) (o : Bool) (ho : o = true ↔ GoodL h) (w : World) (C : List Value) (hR : HRead w h C) (hS : HSm h) :
  Calls Try.prog 116 #[.agg ⟨C⟩] w fun e w' => e = .returned (.bool o) ∧ Below w.heap.size w w':=by
 obtain ⟨Af,cf,Ab,cb,Aq,cq,Ae,ce,rfl,_,_,_,_,rq,lq,re,le⟩:=hR
 have RQ:=Lib.hid rq
 have RE:=Lib.hid re
 have HO:=Lib.hid ho
 have SM:=Lib.hid hS
 clear rq re ho hS
 have HB_0 : Hid (Below w.heap.size w w):=Lib.hid (Below.refl _ _)
 go_enter Try.func116,Try.ntmps116
 go_upto_region 1 with (first | ((with_reducible refine gate_dst (N:=1) rfl ?_);refine box_event ?hg (N:=1) ?hd (cs:=⟨hostC h (.slice Af h.fs.length cf) (.slice Ab h.bs.length cb) (.slice Aq h.fr.length cq) (.slice Ae h.ev.length ce)⟩) (t:=32) ?hr ?_;(case hd => rfl);(case hg => rfl);(case hr => first | (go_simp;done) | (go_simp;rfl));intro g1 hg w1 hbox hb;have LO_HB_g1 : Hid (w.heap.size ≤ g1):=Lib.hid (by rw [hg];exact HB_0.out.size);have HEg1:=Lib.hid hg;have HB_1:=Lib.hid (below_then HB_0.out HB_0.out.size hb);have Xg1_1:=Lib.hid hbox;clear hg hbox hb))
 have y0 : w1.cell? ⟨g1,0,none⟩ = some (.int .i64 h.cb):=blk_cell Xg1_1.out 0
 have y1 : w1.cell? ⟨g1,1,none⟩ = some (.int .i64 h.cf):=blk_cell Xg1_1.out 1
 have y3 : w1.cell? ⟨g1,3,none⟩ = some (.int .i64 h.ce):=blk_cell Xg1_1.out 3
 have y5 : w1.cell? ⟨g1,5,none⟩ = some (.slice Ab h.bs.length cb):=blk_cell Xg1_1.out 5
 have y6 : w1.cell? ⟨g1,6,none⟩ = some (.slice Aq h.fr.length cq):=blk_cell Xg1_1.out 6
 have y7 : w1.cell? ⟨g1,7,none⟩ = some (.slice Ae h.ev.length ce):=blk_cell Xg1_1.out 7
 by_cases r0 : (h.bs.length : Int) ≠ h.cb
 ·have sr0 : ((h.bs.length : Int) != h.cb) = true:=bne_iff_ne.2 r0
  have R0:=Lib.hid r0
  clear r0
  go_wp2_with (fail)
  go_ret
  exact ⟨by rw [isF HO.out (fun G => R0.out G.nb)];rfl,HB_1.out⟩
 have sr0 : ((h.bs.length : Int) != h.cb) = false:=by rw [Classical.not_not.1 r0];exact bne_self_eq_false _
 have R0:=Lib.hid r0
 clear r0
 by_cases r1 : (h.fr.length : Int) > h.cf
 ·have sr1 : decide ((h.fr.length : Int) > h.cf) = true:=decide_eq_true r1
  have R1:=Lib.hid r1
  clear r1
  go_wp2_with (fail)
  go_ret
  exact ⟨by rw [isF HO.out (fun G => by have:=R1.out;have:=G.nq;omega)];rfl,HB_1.out⟩
 have sr1 : decide ((h.fr.length : Int) > h.cf) = false:=decide_eq_false r1
 have R1:=Lib.hid r1
 clear r1
 by_cases r2 : (h.ev.length : Int) > h.ce
 ·have sr2 : decide ((h.ev.length : Int) > h.ce) = true:=decide_eq_true r2
  have R2:=Lib.hid r2
  clear r2
  go_wp2_with (fail)
  go_ret
  exact ⟨by rw [isF HO.out (fun G => by have:=R2.out;have:=G.ne;omega)];rfl,HB_1.out⟩
 have sr2 : decide ((h.ev.length : Int) > h.ce) = false:=decide_eq_false r2
 have R2:=Lib.hid r2
 clear r2
 go_wp2_with (fail)
 clear y0 y1 y3 y5 y6 y7 sr0 sr1 sr2
 go_loopw [35] (fun v35 wr => ∃ i : Nat,i ≤ h.fr.length ∧ v35 = .int .i64 i ∧ Aside0 (∀ j : Nat,j < i → valF (rd_T45 h.fr (j : Int)) = true) ∧ Aside0 (wr.heap[g1]? = some (.cells ⟨hostC h (.slice Af h.fs.length cf) (.slice Ab h.bs.length cb) (.slice Aq h.fr.length cq) (.slice Ae h.ev.length ce)⟩ 32 (0,0))) ∧ Aside0 (Below w.heap.size w wr)) (fun v35 _ => h.fr.length - (intOf v35).toNat)
 case atStart => exact ⟨0,Nat.zero_le _,rfl,⟨fun j hj => absurd hj (Nat.not_lt_zero _)⟩,⟨Xg1_1.out⟩,⟨HB_1.out⟩⟩
 case round =>
  clear Xg1_1 HB_1
  obtain ⟨i,hi,rfl,HF,HX,HB⟩:=hrel
  by_cases hlt : i < h.fr.length
  ·have b2 : decide ((i : Int) < (h.fr.length : Int)) = true:=decide_eq_true (by omega)
   have p5 : (0 ≤ (i : Int)) = True:=eq_true (by omega)
   have q5 : ((i : Int) < (h.fr.length : Int)) = True:=eq_true (by omega)
   have qn : (i < h.fr.length) = True:=eq_true hlt
   have hn : wrap64 ((i : Int) + 1) = (i : Int) + 1:=by have:=SM.out.l3;unfold wrap64;omega
   have HLT:=Lib.hid hlt
   have HI:=Lib.hid hi
   have HN:=Lib.hid hn
   obtain ⟨ad,A8,c8,ea,k0,k1,k2,k3,k4,l8,g8⟩:=at_T45 (Kd.C_below RQ.out HB.out) (i : Int) (by omega) (by omega)
   subst ea
   clear hlt hi l8 g8
   rw [Int.toNat_natCast] at k0 k1 k2 k3 k4
   obtain ⟨f,hb⟩ : ∃ b,b = rd_T45 h.fr (i : Int):=⟨_,rfl⟩
   rw [← hb] at k0 k1 k2 k3 k4
   have HBX:=Lib.hid hb
   have HD8 : Hid (f.f4.length ≤ 10000000):=Lib.hid (by rw [hb];exact SM.out.d3 _ (List.mem_of_getElem? (getD_at h.fr i z45 HLT.out)))
   clear hb
   go_upto_region 6 with (first | ((with_reducible refine gate_dst (N:=4) rfl ?_);refine box_event ?hg (N:=4) ?hd (cs := #[.bool false, .int .u32 0, .bool false, .int .i64 0, .slice none 0 0]) (t:=45) ?hr ?_;(case hd => rfl);(case hg => rfl);(case hr => first | (go_simp;done) | (go_simp;rfl));intro gb hg w1 hbox hb;have LO_HB_gb : Hid (w.heap.size ≤ gb):=Lib.hid (by rw [hg];exact HB.out.size);have NE_g1_gb : Hid (g1 ≠ gb):=Lib.hid (fun e => by have h1:=blk_lt HX.out;omega);have HEgb:=Lib.hid hg;have HB_1:=Lib.hid (below_then HB.out HB.out.size hb);have X_1:=Lib.hid (blk_below HX.out hb);have Xgb_1:=Lib.hid hbox;clear hg hbox hb) | ((with_reducible refine gate_store (t:=45) (p:=4) rfl ?_);refine store_box rfl rfl rfl (g:=gb) (j:=0) (cs := #[.bool false, .int .u32 0, .bool false, .int .i64 0, .slice none 0 0]) (cs':=⟨[.bool f.f0, .int .u32 f.f1, .bool f.f2, .int .i64 f.f3, .slice A8 f.f4.length c8]⟩) (seg := [.bool f.f0, .int .u32 f.f1, .bool f.f2, .int .i64 f.f3, .slice A8 f.f4.length c8]) rfl rfl Xgb_1.out rfl (by kernel_rfl) rfl rfl rfl ?_;intro w2 hx hT;have HB_2:=Lib.hid (hT.below HB_1.out HB_1.out.size (fun k hk => by rw [hk];exact LO_HB_gb.out));have X_2:=Lib.hid (hT.blk X_1.out NE_g1_gb.out);have Xgb_2:=Lib.hid hx;clear hx hT))
   clear k0 k1 k2 k3 k4
   cases q3 : valF f with
   | false =>
    have Q3:=Lib.hid q3
    clear q3
    go_wp2_with (first | ((with_reducible refine gate_dst (N:=39) rfl ?_);refine load_all rfl rfl (g:=gb) rfl Xgb_2.out Try.underlying45 (by kernel_rfl) ?_) | (go_at_call 119;refine (validFrame_at f A8 c8 w2 false Q3.out HD8.out).mono ?_;rintro e w3 ⟨rfl,hb⟩;have HB_3:=Lib.hid (below_then HB_2.out HB_2.out.size hb);have X_3:=Lib.hid (blk_below X_2.out hb);have Xgb_3:=Lib.hid (blk_below Xgb_2.out hb);clear hb))
    go_ret
    exact ⟨by rw [isF HO.out (fun G => by have h1:=G.fr i HLT.out;rw [← HBX.out] at h1;rw [Q3.out] at h1;cases h1)];rfl,HB_3.out⟩
   | true =>
    have Q3:=Lib.hid q3
    clear q3
    go_wp2_with (first | ((with_reducible refine gate_dst (N:=39) rfl ?_);refine load_all rfl rfl (g:=gb) rfl Xgb_2.out Try.underlying45 (by kernel_rfl) ?_) | (go_at_call 119;refine (validFrame_at f A8 c8 w2 true Q3.out HD8.out).mono ?_;rintro e w3 ⟨rfl,hb⟩;have HB_3:=Lib.hid (below_then HB_2.out HB_2.out.size hb);have X_3:=Lib.hid (blk_below X_2.out hb);have Xgb_3:=Lib.hid (blk_below Xgb_2.out hb);clear hb))
    go_roundw
    case rel => exact ⟨i + 1,HLT.out,by rw [HN.out];rfl,⟨fun j hj => by by_cases e : j = i;subst e;rw [← HBX.out];exact Q3.out;exact HF.out j (by omega)⟩,⟨X_3.out⟩,⟨HB_3.out⟩⟩
    case measure => rw [HN.out];have:=HLT.out;simp [intOf];omega
  ·have hii : i = h.fr.length:=by omega
   subst hii
   have b2 : decide ((h.fr.length : Int) < (h.fr.length : Int)) = false:=decide_eq_false (by omega)
   have y7 : wr.cell? ⟨g1,7,none⟩ = some (.slice Ae h.ev.length ce):=blk_cell HX.out 7
   go_wp2_with (fail)
   clear y7 b2 hi
   go_loopw [46] (fun v46 wr => ∃ i : Nat,i ≤ h.ev.length ∧ v46 = .int .i64 i ∧ Aside0 (∀ j : Nat,j < i → evOk (rd_T56 h.ev (j : Int))) ∧ Aside0 (wr.heap[g1]? = some (.cells ⟨hostC h (.slice Af h.fs.length cf) (.slice Ab h.bs.length cb) (.slice Aq h.fr.length cq) (.slice Ae h.ev.length ce)⟩ 32 (0,0))) ∧ Aside0 (Below w.heap.size w wr)) (fun v46 _ => h.ev.length - (intOf v46).toNat)
   case atStart => exact ⟨0,Nat.zero_le _,rfl,⟨fun j hj => absurd hj (Nat.not_lt_zero _)⟩,⟨HX.out⟩,⟨HB.out⟩⟩
   case round =>
    clear HX HB
    obtain ⟨i,hi,rfl,HE,HX,HB⟩:=hrel
    by_cases hlt : i < h.ev.length
    ·have b2 : decide ((i : Int) < (h.ev.length : Int)) = true:=decide_eq_true (by omega)
     have p5 : (0 ≤ (i : Int)) = True:=eq_true (by omega)
     have q5 : ((i : Int) < (h.ev.length : Int)) = True:=eq_true (by omega)
     have qn : (i < h.ev.length) = True:=eq_true hlt
     have hn : wrap64 ((i : Int) + 1) = (i : Int) + 1:=by have:=SM.out.l4;unfold wrap64;omega
     have HLT:=Lib.hid hlt
     have HI:=Lib.hid hi
     have HN:=Lib.hid hn
     obtain ⟨ad,A8,c8,ea,k0,k1,k2,k3,k4,k5,k6,k7,l8,g8⟩:=at_T56 (Kd.C_below RE.out HB.out) (i : Int) (by omega) (by omega)
     subst ea
     clear hlt hi l8 g8
     rw [Int.toNat_natCast] at k0 k1 k2 k3 k4 k5 k6 k7
     obtain ⟨b,hb⟩ : ∃ b,b = rd_T56 h.ev (i : Int):=⟨_,rfl⟩
     rw [← hb] at k0 k1 k2 k3 k4 k5 k6 k7
     have HBX:=Lib.hid hb
     have HD8 : Hid (b.f3.f4.length ≤ 10000000):=Lib.hid (by rw [hb];exact SM.out.d4 _ (List.mem_of_getElem? (getD_at h.ev i z56 HLT.out)))
     clear hb
     go_upto_region 12 with (first | ((with_reducible refine gate_dst (N:=6) rfl ?_);refine box_event ?hg (N:=6) ?hd (cs := #[.int .i64 0, .int .i64 0, .int .i64 0, .bool false, .int .u32 0, .bool false, .int .i64 0, .slice none 0 0]) (t:=56) ?hr ?_;(case hd => rfl);(case hg => rfl);(case hr => first | (go_simp;done) | (go_simp;rfl));intro gb hg w1 hbox hb;have LO_HB_gb : Hid (w.heap.size ≤ gb):=Lib.hid (by rw [hg];exact HB.out.size);have NE_g1_gb : Hid (g1 ≠ gb):=Lib.hid (fun e => by have h1:=blk_lt HX.out;omega);have HEgb:=Lib.hid hg;have HB_1:=Lib.hid (below_then HB.out HB.out.size hb);have X_1:=Lib.hid (blk_below HX.out hb);have Xgb_1:=Lib.hid hbox;clear hg hbox hb) | ((with_reducible refine gate_store (t:=56) (p:=6) rfl ?_);refine store_box rfl rfl rfl (g:=gb) (j:=0) (cs := #[.int .i64 0, .int .i64 0, .int .i64 0, .bool false, .int .u32 0, .bool false, .int .i64 0, .slice none 0 0]) (cs':=⟨[.int .i64 b.f0, .int .i64 b.f1, .int .i64 b.f2, .bool b.f3.f0, .int .u32 b.f3.f1, .bool b.f3.f2, .int .i64 b.f3.f3, .slice A8 b.f3.f4.length c8]⟩) (seg := [.int .i64 b.f0, .int .i64 b.f1, .int .i64 b.f2, .bool b.f3.f0, .int .u32 b.f3.f1, .bool b.f3.f2, .int .i64 b.f3.f3, .slice A8 b.f3.f4.length c8]) rfl rfl Xgb_1.out rfl (by kernel_rfl) rfl rfl rfl ?_;intro w2 hx hT;have HB_2:=Lib.hid (hT.below HB_1.out HB_1.out.size (fun k hk => by rw [hk];exact LO_HB_gb.out));have X_2:=Lib.hid (hT.blk X_1.out NE_g1_gb.out);have Xgb_2:=Lib.hid hx;clear hx hT))
     clear k0 k1 k2 k3 k4 k5 k6 k7
     have y0 : w2.cell? ⟨gb,0,none⟩ = some (.int .i64 b.f0):=blk_cell Xgb_2.out 0
     have y1 : w2.cell? ⟨gb,1,none⟩ = some (.int .i64 b.f1):=blk_cell Xgb_2.out 1
     have y2 : w2.cell? ⟨gb,2,none⟩ = some (.int .i64 b.f2):=blk_cell Xgb_2.out 2
     have y3 : w2.cell? ⟨gb,3,none⟩ = some (.bool b.f3.f0):=blk_cell Xgb_2.out 3
     have y4 : w2.cell? ⟨gb,4,none⟩ = some (.int .u32 b.f3.f1):=blk_cell Xgb_2.out 4
     have y5 : w2.cell? ⟨gb,5,none⟩ = some (.bool b.f3.f2):=blk_cell Xgb_2.out 5
     have y6 : w2.cell? ⟨gb,6,none⟩ = some (.int .i64 b.f3.f3):=blk_cell Xgb_2.out 6
     have y7 : w2.cell? ⟨gb,7,none⟩ = some (.slice A8 b.f3.f4.length c8):=blk_cell Xgb_2.out 7
     by_cases r0 : b.f0 < 1
     ·have sr0 : decide (b.f0 < 1) = true:=decide_eq_true r0
      have R0:=Lib.hid r0
      clear r0
      go_wp2_with (fail)
      go_ret
      exact ⟨by rw [isF HO.out (fun G => by have h1:=G.ev i HLT.out;rw [← HBX.out] at h1;obtain ⟨a1,a2,a3,a4,a5,a6,a7⟩:=h1;have:=R0.out;omega)];rfl,HB_2.out⟩
     have sr0 : decide (b.f0 < 1) = false:=decide_eq_false r0
     have R0:=Lib.hid r0
     clear r0
     by_cases r1 : b.f0 > 12
     ·have sr1 : decide (b.f0 > 12) = true:=decide_eq_true r1
      have R1:=Lib.hid r1
      clear r1
      go_wp2_with (fail)
      go_ret
      exact ⟨by rw [isF HO.out (fun G => by have h1:=G.ev i HLT.out;rw [← HBX.out] at h1;obtain ⟨a1,a2,a3,a4,a5,a6,a7⟩:=h1;have:=R1.out;omega)];rfl,HB_2.out⟩
     have sr1 : decide (b.f0 > 12) = false:=decide_eq_false r1
     have R1:=Lib.hid r1
     clear r1
     by_cases r2 : b.f1 < 0
     ·have sr2 : decide (b.f1 < 0) = true:=decide_eq_true r2
      have R2:=Lib.hid r2
      clear r2
      go_wp2_with (fail)
      go_ret
      exact ⟨by rw [isF HO.out (fun G => by have h1:=G.ev i HLT.out;rw [← HBX.out] at h1;obtain ⟨a1,a2,a3,a4,a5,a6,a7⟩:=h1;have:=R2.out;omega)];rfl,HB_2.out⟩
     have sr2 : decide (b.f1 < 0) = false:=decide_eq_false r2
     have R2:=Lib.hid r2
     clear r2
     by_cases r3 : b.f1 > 9999
     ·have sr3 : decide (b.f1 > 9999) = true:=decide_eq_true r3
      have R3:=Lib.hid r3
      clear r3
      go_wp2_with (fail)
      go_ret
      exact ⟨by rw [isF HO.out (fun G => by have h1:=G.ev i HLT.out;rw [← HBX.out] at h1;obtain ⟨a1,a2,a3,a4,a5,a6,a7⟩:=h1;have:=R3.out;omega)];rfl,HB_2.out⟩
     have sr3 : decide (b.f1 > 9999) = false:=decide_eq_false r3
     have R3:=Lib.hid r3
     clear r3
     by_cases r4 : b.f2 < 0
     ·have sr4 : decide (b.f2 < 0) = true:=decide_eq_true r4
      have R4:=Lib.hid r4
      clear r4
      go_wp2_with (fail)
      go_ret
      exact ⟨by rw [isF HO.out (fun G => by have h1:=G.ev i HLT.out;rw [← HBX.out] at h1;obtain ⟨a1,a2,a3,a4,a5,a6,a7⟩:=h1;have:=R4.out;omega)];rfl,HB_2.out⟩
     have sr4 : decide (b.f2 < 0) = false:=decide_eq_false r4
     have R4:=Lib.hid r4
     clear r4
     by_cases r5 : b.f2 > 9
     ·have sr5 : decide (b.f2 > 9) = true:=decide_eq_true r5
      have R5:=Lib.hid r5
      clear r5
      go_wp2_with (fail)
      go_ret
      exact ⟨by rw [isF HO.out (fun G => by have h1:=G.ev i HLT.out;rw [← HBX.out] at h1;obtain ⟨a1,a2,a3,a4,a5,a6,a7⟩:=h1;have:=R5.out;omega)];rfl,HB_2.out⟩
     have sr5 : decide (b.f2 > 9) = false:=decide_eq_false r5
     have R5:=Lib.hid r5
     clear r5
     cases q3 : zeroB b.f3 with
     | true =>
      have Q3:=Lib.hid q3
      clear q3
      go_wp2_with (first | (go_at_call 143;refine (zeroFrame_at b.f3 A8 c8 w2 true Q3.out).mono ?_;rintro e w3 ⟨rfl,hb⟩;have HB_3:=Lib.hid (below_then HB_2.out HB_2.out.size hb);have X_3:=Lib.hid (blk_below X_2.out hb);have Xgb_3:=Lib.hid (blk_below Xgb_2.out hb);clear hb))
      go_roundw
      case rel => exact ⟨i + 1,HLT.out,by rw [HN.out];rfl,⟨fun j hj => by by_cases e : j = i;subst e;rw [← HBX.out];exact ⟨by have:=R0.out;omega,by have:=R1.out;omega,by have:=R2.out;omega,by have:=R3.out;omega,by have:=R4.out;omega,by have:=R5.out;omega, .inl Q3.out⟩;exact HE.out j (by omega)⟩,⟨X_3.out⟩,⟨HB_3.out⟩⟩
      case measure => rw [HN.out];have:=HLT.out;simp [intOf];omega
     | false =>
      have Q3:=Lib.hid q3
      clear q3
      cases q4 : valF b.f3 with
      | true =>
       have Q4:=Lib.hid q4
       clear q4
       go_wp2_with (first | (go_at_call 143;refine (zeroFrame_at b.f3 A8 c8 w2 false Q3.out).mono ?_;rintro e w3 ⟨rfl,hb⟩;have HB_3:=Lib.hid (below_then HB_2.out HB_2.out.size hb);have X_3:=Lib.hid (blk_below X_2.out hb);have Xgb_3:=Lib.hid (blk_below Xgb_2.out hb);have x3 : w3.cell? ⟨gb,3,none⟩ = some (.bool b.f3.f0):=blk_cell Xgb_3.out 3;have x4 : w3.cell? ⟨gb,4,none⟩ = some (.int .u32 b.f3.f1):=blk_cell Xgb_3.out 4;have x5 : w3.cell? ⟨gb,5,none⟩ = some (.bool b.f3.f2):=blk_cell Xgb_3.out 5;have x6 : w3.cell? ⟨gb,6,none⟩ = some (.int .i64 b.f3.f3):=blk_cell Xgb_3.out 6;have x7 : w3.cell? ⟨gb,7,none⟩ = some (.slice A8 b.f3.f4.length c8):=blk_cell Xgb_3.out 7;clear hb) | (go_at_call 119;refine (validFrame_at b.f3 A8 c8 w3 true Q4.out HD8.out).mono ?_;rintro e w4 ⟨rfl,hb⟩;have HB_4:=Lib.hid (below_then HB_3.out HB_3.out.size hb);have X_4:=Lib.hid (blk_below X_3.out hb);have Xgb_4:=Lib.hid (blk_below Xgb_3.out hb);clear hb))
       go_roundw
       case rel => exact ⟨i + 1,HLT.out,by rw [HN.out];rfl,⟨fun j hj => by by_cases e : j = i;subst e;rw [← HBX.out];exact ⟨by have:=R0.out;omega,by have:=R1.out;omega,by have:=R2.out;omega,by have:=R3.out;omega,by have:=R4.out;omega,by have:=R5.out;omega, .inr Q4.out⟩;exact HE.out j (by omega)⟩,⟨X_4.out⟩,⟨HB_4.out⟩⟩
       case measure => rw [HN.out];have:=HLT.out;simp [intOf];omega
      | false =>
       have Q4:=Lib.hid q4
       clear q4
       go_wp2_with (first | (go_at_call 143;refine (zeroFrame_at b.f3 A8 c8 w2 false Q3.out).mono ?_;rintro e w3 ⟨rfl,hb⟩;have HB_3:=Lib.hid (below_then HB_2.out HB_2.out.size hb);have X_3:=Lib.hid (blk_below X_2.out hb);have Xgb_3:=Lib.hid (blk_below Xgb_2.out hb);have x3 : w3.cell? ⟨gb,3,none⟩ = some (.bool b.f3.f0):=blk_cell Xgb_3.out 3;have x4 : w3.cell? ⟨gb,4,none⟩ = some (.int .u32 b.f3.f1):=blk_cell Xgb_3.out 4;have x5 : w3.cell? ⟨gb,5,none⟩ = some (.bool b.f3.f2):=blk_cell Xgb_3.out 5;have x6 : w3.cell? ⟨gb,6,none⟩ = some (.int .i64 b.f3.f3):=blk_cell Xgb_3.out 6;have x7 : w3.cell? ⟨gb,7,none⟩ = some (.slice A8 b.f3.f4.length c8):=blk_cell Xgb_3.out 7;clear hb) | (go_at_call 119;refine (validFrame_at b.f3 A8 c8 w3 false Q4.out HD8.out).mono ?_;rintro e w4 ⟨rfl,hb⟩;have HB_4:=Lib.hid (below_then HB_3.out HB_3.out.size hb);have X_4:=Lib.hid (blk_below X_3.out hb);have Xgb_4:=Lib.hid (blk_below Xgb_3.out hb);clear hb))
       go_ret
       exact ⟨by rw [isF HO.out (fun G => by have h1:=G.ev i HLT.out;rw [← HBX.out] at h1;obtain ⟨a1,a2,a3,a4,a5,a6,a7⟩:=h1;rcases a7 with a7 | a7;rw [Q3.out] at a7;cases a7;rw [Q4.out] at a7;cases a7)];rfl,HB_4.out⟩
    ·have hii : i = h.ev.length:=by omega
     subst hii
     have b2 : decide ((h.ev.length : Int) < (h.ev.length : Int)) = false:=decide_eq_false (by omega)
     go_wp2_with (fail)
     go_ret
     have G : GoodL h:=⟨Classical.not_not.1 R0.out,by have:=R1.out;omega,by have:=R2.out;omega,HF.out,HE.out⟩
     exact ⟨by rw [HO.out.2 G];rfl,HB.out⟩
set_option maxRecDepth 100000 in
set_option maxHeartbeats 8000000 in
theorem goodHost_v (h : HV) (o o1 o2 o3 o4 : Bool) (hO : OkH h o o1 o2 o3 o4) (w : World) (C : List Value) (hR : HRead w h C) (hS : HSm h) :
  Calls Try.prog 76 #[.agg ⟨C⟩] w fun e w' => e = .returned (.bool o) ∧ Below w.heap.size w w':=by
 have RR:=Lib.hid hR
 obtain ⟨Af,cf,Ab,cb,Aq,cq,Ae,ce,rfl,rf,lf,_,_,_,_,_,_⟩:=hR
 have RF:=Lib.hid rf
 have LF:=Lib.hid lf
 have SM:=Lib.hid hS
 have E1:=Lib.hid hO.e1
 obtain ⟨kf,hkf⟩:=hO.e2.rounds
 have E2:=Lib.hid hkf
 have E3:=Lib.hid hO.e3
 have E4:=Lib.hid hO.e4
 have his:=hO.is
 have HB_0 : Hid (Below w.heap.size w w):=Lib.hid (Below.refl _ _)
 have hu32:=Lib.hid Try.underlying32
 have hu26:=Lib.hid Try.underlying26
 clear hS rf lf hO hkf
 go_enter Try.func76,Try.ntmps76
 go_upto_region 1 with (first | ((with_reducible refine gate_dst (N:=1) rfl ?_);refine box_event ?hg (N:=1) ?hd (cs:=⟨hostC h (.slice Af h.fs.length cf) (.slice Ab h.bs.length cb) (.slice Aq h.fr.length cq) (.slice Ae h.ev.length ce)⟩) (t:=32) ?hr ?_;(case hd => rfl);(case hg => rfl);(case hr => first | (go_simp;done) | (go_simp;rfl));intro g1 hg w1 hbox hb;have LO_HB_g1 : Hid (w.heap.size ≤ g1):=Lib.hid (by rw [hg];exact HB_0.out.size);have HEg1:=Lib.hid hg;have HB_1:=Lib.hid (below_then HB_0.out HB_0.out.size hb);have Xg1_1:=Lib.hid hbox;clear hg hbox hb))
 have y0 : w1.cell? ⟨g1,0,none⟩ = some (.int .i64 h.cb):=blk_cell Xg1_1.out 0
 have y1 : w1.cell? ⟨g1,1,none⟩ = some (.int .i64 h.cf):=blk_cell Xg1_1.out 1
 have y2 : w1.cell? ⟨g1,2,none⟩ = some (.int .i64 h.cp):=blk_cell Xg1_1.out 2
 have y3 : w1.cell? ⟨g1,3,none⟩ = some (.int .i64 h.ce):=blk_cell Xg1_1.out 3
 cases o1 with
 | false =>
  simp only [Bool.false_and] at his
  subst his
  go_wp2_with (first | (go_at_call 61;refine (impl_goodConfig.calls h.cb h.cf h.cp h.ce false w1 E1.out).mono ?_;rintro e w2 ⟨rfl,hb⟩;have HB_2:=Lib.hid (below_then HB_1.out HB_1.out.size hb);have Xg1_2:=Lib.hid (blk_below Xg1_1.out hb);have f4 : w2.cell? ⟨g1,4,none⟩ = some (.slice Af h.fs.length cf):=blk_cell Xg1_2.out 4;clear hb))
  go_ret
  exact ⟨rfl,HB_2.out⟩
 | true =>
  cases o2 with
  | false =>
   simp only [Bool.false_and,Bool.and_false] at his
   subst his
   go_wp2_with (first | (go_at_call 61;refine (impl_goodConfig.calls h.cb h.cf h.cp h.ce true w1 E1.out).mono ?_;rintro e w2 ⟨rfl,hb⟩;have HB_2:=Lib.hid (below_then HB_1.out HB_1.out.size hb);have Xg1_2:=Lib.hid (blk_below Xg1_1.out hb);have f4 : w2.cell? ⟨g1,4,none⟩ = some (.slice Af h.fs.length cf):=blk_cell Xg1_2.out 4;clear hb) | (go_at_call 62;refine (impl_goodFilters.calls kf Af cf h.fs false w2 (Kd.C_below RF.out HB_2.out) LF.out E2.out).mono ?_;rintro e w3 ⟨rfl,hb⟩;have HB_3:=Lib.hid (below_then HB_2.out HB_2.out.size hb);have Xg1_3:=Lib.hid (blk_below Xg1_2.out hb);have l8 : w3.cell? ⟨g1,8,none⟩ = some (.int .i64 h.lost):=blk_cell Xg1_3.out 8;have l9 : w3.cell? ⟨g1,9,none⟩ = some (.int .i64 h.stamp):=blk_cell Xg1_3.out 9;clear hb))
   go_ret
   exact ⟨rfl,HB_3.out⟩
  | true =>
   simp only [Bool.true_and] at his
   by_cases r0 : h.lost < 0
   ·have sr0 : decide (h.lost < 0) = true:=decide_eq_true r0
    have R0:=Lib.hid r0
    clear r0
    have hz : decide (0 ≤ h.lost) = false:=decide_eq_false (by have:=R0.out;omega)
    rw [hz] at his
    simp only [Bool.false_and,Bool.and_false] at his
    subst his
    clear hz
    go_wp2_with (first | (go_at_call 61;refine (impl_goodConfig.calls h.cb h.cf h.cp h.ce true w1 E1.out).mono ?_;rintro e w2 ⟨rfl,hb⟩;have HB_2:=Lib.hid (below_then HB_1.out HB_1.out.size hb);have Xg1_2:=Lib.hid (blk_below Xg1_1.out hb);have f4 : w2.cell? ⟨g1,4,none⟩ = some (.slice Af h.fs.length cf):=blk_cell Xg1_2.out 4;clear hb) | (go_at_call 62;refine (impl_goodFilters.calls kf Af cf h.fs true w2 (Kd.C_below RF.out HB_2.out) LF.out E2.out).mono ?_;rintro e w3 ⟨rfl,hb⟩;have HB_3:=Lib.hid (below_then HB_2.out HB_2.out.size hb);have Xg1_3:=Lib.hid (blk_below Xg1_2.out hb);have l8 : w3.cell? ⟨g1,8,none⟩ = some (.int .i64 h.lost):=blk_cell Xg1_3.out 8;have l9 : w3.cell? ⟨g1,9,none⟩ = some (.int .i64 h.stamp):=blk_cell Xg1_3.out 9;clear hb))
    go_ret
    exact ⟨rfl,HB_3.out⟩
   have sr0 : decide (h.lost < 0) = false:=decide_eq_false r0
   have R0:=Lib.hid r0
   clear r0
   by_cases r1 : h.lost > 100000
   ·have sr1 : decide (h.lost > 100000) = true:=decide_eq_true r1
    have R1:=Lib.hid r1
    clear r1
    have hz : decide (h.lost ≤ 100000) = false:=decide_eq_false (by have:=R1.out;omega)
    rw [hz] at his
    simp only [Bool.false_and,Bool.and_false] at his
    subst his
    clear hz
    go_wp2_with (first | (go_at_call 61;refine (impl_goodConfig.calls h.cb h.cf h.cp h.ce true w1 E1.out).mono ?_;rintro e w2 ⟨rfl,hb⟩;have HB_2:=Lib.hid (below_then HB_1.out HB_1.out.size hb);have Xg1_2:=Lib.hid (blk_below Xg1_1.out hb);have f4 : w2.cell? ⟨g1,4,none⟩ = some (.slice Af h.fs.length cf):=blk_cell Xg1_2.out 4;clear hb) | (go_at_call 62;refine (impl_goodFilters.calls kf Af cf h.fs true w2 (Kd.C_below RF.out HB_2.out) LF.out E2.out).mono ?_;rintro e w3 ⟨rfl,hb⟩;have HB_3:=Lib.hid (below_then HB_2.out HB_2.out.size hb);have Xg1_3:=Lib.hid (blk_below Xg1_2.out hb);have l8 : w3.cell? ⟨g1,8,none⟩ = some (.int .i64 h.lost):=blk_cell Xg1_3.out 8;have l9 : w3.cell? ⟨g1,9,none⟩ = some (.int .i64 h.stamp):=blk_cell Xg1_3.out 9;clear hb))
    go_ret
    exact ⟨rfl,HB_3.out⟩
   have sr1 : decide (h.lost > 100000) = false:=decide_eq_false r1
   have R1:=Lib.hid r1
   clear r1
   by_cases r2 : h.stamp < 0
   ·have sr2 : decide (h.stamp < 0) = true:=decide_eq_true r2
    have R2:=Lib.hid r2
    clear r2
    have hz : decide (0 ≤ h.stamp) = false:=decide_eq_false (by have:=R2.out;omega)
    rw [hz] at his
    simp only [Bool.false_and,Bool.and_false] at his
    subst his
    clear hz
    go_wp2_with (first | (go_at_call 61;refine (impl_goodConfig.calls h.cb h.cf h.cp h.ce true w1 E1.out).mono ?_;rintro e w2 ⟨rfl,hb⟩;have HB_2:=Lib.hid (below_then HB_1.out HB_1.out.size hb);have Xg1_2:=Lib.hid (blk_below Xg1_1.out hb);have f4 : w2.cell? ⟨g1,4,none⟩ = some (.slice Af h.fs.length cf):=blk_cell Xg1_2.out 4;clear hb) | (go_at_call 62;refine (impl_goodFilters.calls kf Af cf h.fs true w2 (Kd.C_below RF.out HB_2.out) LF.out E2.out).mono ?_;rintro e w3 ⟨rfl,hb⟩;have HB_3:=Lib.hid (below_then HB_2.out HB_2.out.size hb);have Xg1_3:=Lib.hid (blk_below Xg1_2.out hb);have l8 : w3.cell? ⟨g1,8,none⟩ = some (.int .i64 h.lost):=blk_cell Xg1_3.out 8;have l9 : w3.cell? ⟨g1,9,none⟩ = some (.int .i64 h.stamp):=blk_cell Xg1_3.out 9;clear hb))
    go_ret
    exact ⟨rfl,HB_3.out⟩
   have sr2 : decide (h.stamp < 0) = false:=decide_eq_false r2
   have R2:=Lib.hid r2
   clear r2
   by_cases r3 : h.stamp > 1000000
   ·have sr3 : decide (h.stamp > 1000000) = true:=decide_eq_true r3
    have R3:=Lib.hid r3
    clear r3
    have hz : decide (h.stamp ≤ 1000000) = false:=decide_eq_false (by have:=R3.out;omega)
    rw [hz] at his
    simp only [Bool.false_and,Bool.and_false] at his
    subst his
    clear hz
    go_wp2_with (first | (go_at_call 61;refine (impl_goodConfig.calls h.cb h.cf h.cp h.ce true w1 E1.out).mono ?_;rintro e w2 ⟨rfl,hb⟩;have HB_2:=Lib.hid (below_then HB_1.out HB_1.out.size hb);have Xg1_2:=Lib.hid (blk_below Xg1_1.out hb);have f4 : w2.cell? ⟨g1,4,none⟩ = some (.slice Af h.fs.length cf):=blk_cell Xg1_2.out 4;clear hb) | (go_at_call 62;refine (impl_goodFilters.calls kf Af cf h.fs true w2 (Kd.C_below RF.out HB_2.out) LF.out E2.out).mono ?_;rintro e w3 ⟨rfl,hb⟩;have HB_3:=Lib.hid (below_then HB_2.out HB_2.out.size hb);have Xg1_3:=Lib.hid (blk_below Xg1_2.out hb);have l8 : w3.cell? ⟨g1,8,none⟩ = some (.int .i64 h.lost):=blk_cell Xg1_3.out 8;have l9 : w3.cell? ⟨g1,9,none⟩ = some (.int .i64 h.stamp):=blk_cell Xg1_3.out 9;clear hb))
    go_ret
    exact ⟨rfl,HB_3.out⟩
   have sr3 : decide (h.stamp > 1000000) = false:=decide_eq_false r3
   have R3:=Lib.hid r3
   clear r3
   have hz0 : decide (0 ≤ h.lost) = true:=decide_eq_true (by have:=R0.out;omega)
   have hz1 : decide (h.lost ≤ 100000) = true:=decide_eq_true (by have:=R1.out;omega)
   have hz2 : decide (0 ≤ h.stamp) = true:=decide_eq_true (by have:=R2.out;omega)
   have hz3 : decide (h.stamp ≤ 1000000) = true:=decide_eq_true (by have:=R3.out;omega)
   rw [hz0,hz1,hz2,hz3] at his
   simp only [Bool.true_and] at his
   clear hz0 hz1 hz2 hz3
   go_upto_region 3 with (first | (go_at_call 61;refine (impl_goodConfig.calls h.cb h.cf h.cp h.ce true w1 E1.out).mono ?_;rintro e w2 ⟨rfl,hb⟩;have HB_2:=Lib.hid (below_then HB_1.out HB_1.out.size hb);have Xg1_2:=Lib.hid (blk_below Xg1_1.out hb);have f4 : w2.cell? ⟨g1,4,none⟩ = some (.slice Af h.fs.length cf):=blk_cell Xg1_2.out 4;clear hb) | (go_at_call 62;refine (impl_goodFilters.calls kf Af cf h.fs true w2 (Kd.C_below RF.out HB_2.out) LF.out E2.out).mono ?_;rintro e w3 ⟨rfl,hb⟩;have HB_3:=Lib.hid (below_then HB_2.out HB_2.out.size hb);have Xg1_3:=Lib.hid (blk_below Xg1_2.out hb);have l8 : w3.cell? ⟨g1,8,none⟩ = some (.int .i64 h.lost):=blk_cell Xg1_3.out 8;have l9 : w3.cell? ⟨g1,9,none⟩ = some (.int .i64 h.stamp):=blk_cell Xg1_3.out 9;clear hb))
   clear y0 y1 y2 y3 sr0 sr1 sr2 sr3
   cases o3 with
   | false =>
    simp only [Bool.false_and] at his
    subst his
    go_wp2_with (first | ((with_reducible refine gate_dst (N:=33) rfl ?_);refine load_all rfl rfl (g:=g1) rfl Xg1_3.out hu32.out (by kernel_rfl) ?_) | (go_at_call 116;refine (goodLists_v h false E3.out w3 _ (RR.out.below HB_3.out) SM.out).mono ?_;rintro e w4 ⟨rfl,hb⟩;have HB_4:=Lib.hid (below_then HB_3.out HB_3.out.size hb);have Xg1_4:=Lib.hid (blk_below Xg1_3.out hb);clear hb))
    go_ret
    exact ⟨rfl,HB_4.out⟩
   | true =>
    simp only [Bool.true_and] at his
    have HIS:=Lib.hid his
    clear his
    go_wp2_with (first | ((with_reducible refine gate_dst (N:=33) rfl ?_);refine load_all rfl rfl (g:=g1) rfl Xg1_3.out hu32.out (by kernel_rfl) ?_) | (go_at_call 116;refine (goodLists_v h true E3.out w3 _ (RR.out.below HB_3.out) SM.out).mono ?_;rintro e w4 ⟨rfl,hb⟩;have HB_4:=Lib.hid (below_then HB_3.out HB_3.out.size hb);have Xg1_4:=Lib.hid (blk_below Xg1_3.out hb);clear hb) | ((with_reducible refine gate_dst (N:=36) rfl ?_);refine gate_guard (by rfl) ?_;refine load_all rfl rfl (g:=g1) rfl Xg1_4.out hu32.out (by kernel_rfl) ?_) | (go_at_call 117;refine (goodBoxes_v h o4 E4.out w4 _ (RR.out.below HB_4.out) SM.out).mono ?_;rintro e w5 ⟨rfl,hb⟩;have HB_5:=Lib.hid (below_then HB_4.out HB_4.out.size hb);have Xg1_5:=Lib.hid (blk_below Xg1_4.out hb);clear hb))
    go_ret
    exact ⟨by rw [HIS.out];rfl,HB_5.out⟩
end Go.Proofs.Ytcaefabbcjlkdaa.P
namespace Go.Proofs.Ytcaefabbcjlkdaa.P
open Go.RowKit Go.Proofs.YtcaefabbcjlkdaaW.PrintWords Go.Proofs.YtcaefabbcjlkdaaW.PrintLast Go.Proofs.YtcaefabbcjlkdaaW.PrintMore
set_option linter.unusedVariables false
set_option linter.unusedSimpArgs false
def spec_l1dataLen.f (a0_0 : Bool) (a0_1 : Int) (a0_2 : Bool) (a0_3 : Int) (l0_4 : List Int) : Option (Int):=if a0_2 = true then (some 0) else (if a0_3 > 8 then (some 8) else (some a0_3))
set_option maxHeartbeats 8000000 in
set_option maxRecDepth 100000 in
theorem spec_l1dataLen.calls (a0_0 : Bool) (a0_1 : Int) (a0_2 : Bool) (a0_3 : Int) (A0_4 : Option Addr) (c0_4 : Nat) (l0_4 : List Int) (r : Int) (w : World) (hr0_4 : Kd.C (Kd.int .u8) w A0_4 l0_4.length l0_4) (hc0_4 : l0_4.length ≤ c0_4) (h : spec_l1dataLen.f a0_0 a0_1 a0_2 a0_3 l0_4 = some r) :
  Calls Try.prog 115 #[.agg #[.bool a0_0, .int .u32 a0_1, .bool a0_2, .int .i64 a0_3, .slice A0_4 l0_4.length c0_4]] w fun e w' => e = .returned (.int .i64 r) ∧ Below w.heap.size w w':=by
 have hu45:=Try.underlying45
 have HR0_4:=Aside0.mk hr0_4
 have HC0_4:=Aside0.mk hc0_4
 clear hr0_4 hc0_4
 have HB:=Aside0.mk (Below.refl w.heap.size w)
 have H : (if a0_2 = true then (some 0) else (if a0_3 > 8 then (some 8) else (some a0_3))) = some r:=h
 clear h
 by_cases c2 : a0_2 = true
 ·subst c2
  have H1 : (some 0) = some r:=by rw [if_pos rfl] at H;exact H
  clear H
  have H:=H1
  clear H1
  obtain rfl:=Option.some.inj H
  go_enter Try.func115,Try.ntmps115
  go_wp2_with (first | ((with_reducible refine gate_dst (N:=1) rfl ?_);refine box_event ?hg (N:=1) ?hd (cs := #[.bool a0_0, .int .u32 a0_1, .bool true, .int .i64 a0_3, .slice A0_4 l0_4.length c0_4]) (t:=45) ?hr ?_;(case hd => rfl);(case hg => rfl);(case hr => first | (go_simp;done) | (go_simp;rfl));intro gb122 hg w3 hbox hb;have n0_:=Aside0.mk (below_step (by repeat (first | (with_reducible first | exact HB.out | apply below_alloc | apply pw_below_drewN | apply below_drew1) | exact HB.out)) hb);have n1_:=Aside0.mk (hbox);have n2_:=Aside0.mk ((by rw [hg];exact (below_size (by repeat (first | (with_reducible first | exact HB.out | apply below_alloc | apply pw_below_drewN | apply below_drew1) | exact HB.out))) : w.heap.size ≤ gb122));have n3_:=Aside0.mk ((by rw [hg];exact (below_size (by repeat (first | (with_reducible first | exact HB.out | apply below_alloc | apply pw_below_drewN | apply below_drew1) | exact HB.out))) : w.heap.size ≤ gb122));clear HB;have HB:=n0_;have BK122:=n1_;have GW122:=n2_;have GE122:=n3_;clear n0_ n1_ n2_ n3_;clear hb hbox hg;obtain ⟨hcz4_0,hcz4_1,hcz4_2,hcz4_3,hcz4_4⟩:=bc5 BK122.out;obtain ⟨hfz4_0,hfz4_1,hfz4_2,hfz4_3,hfz4_4⟩:=bf5 BK122.out))
  go_ret
  exact ⟨by first | rfl | (simp [errW_none,errW_some] <;> rfl) | (simp [*,errW_none,errW_some] <;> rfl),by repeat (first | (with_reducible first | exact HB.out | apply below_alloc | apply pw_below_drewN | apply below_drew1 | refine below_set ?_ GE122.out) | exact HB.out)⟩
 ·replace c2:=Bool.eq_false_iff.mpr c2
  subst c2
  have H1 : (if a0_3 > 8 then (some 8) else (some a0_3)) = some r:=by rw [if_neg (show ¬ (false = true) by decide)] at H;exact H
  clear H
  have H:=H1
  clear H1
  by_cases c5 : a0_3 > 8
  ·rw [if_pos c5] at H
   have c5b0 : decide (8 < a0_3) = true:=decide_eq_true c5
   clear c5
   obtain rfl:=Option.some.inj H
   go_enter Try.func115,Try.ntmps115
   go_wp2_with (first | ((with_reducible refine gate_dst (N:=1) rfl ?_);refine box_event ?hg (N:=1) ?hd (cs := #[.bool a0_0, .int .u32 a0_1, .bool false, .int .i64 a0_3, .slice A0_4 l0_4.length c0_4]) (t:=45) ?hr ?_;(case hd => rfl);(case hg => rfl);(case hr => first | (go_simp;done) | (go_simp;rfl));intro gb122 hg w6 hbox hb;have n0_:=Aside0.mk (below_step (by repeat (first | (with_reducible first | exact HB.out | apply below_alloc | apply pw_below_drewN | apply below_drew1) | exact HB.out)) hb);have n1_:=Aside0.mk (hbox);have n2_:=Aside0.mk ((by rw [hg];exact (below_size (by repeat (first | (with_reducible first | exact HB.out | apply below_alloc | apply pw_below_drewN | apply below_drew1) | exact HB.out))) : w.heap.size ≤ gb122));have n3_:=Aside0.mk ((by rw [hg];exact (below_size (by repeat (first | (with_reducible first | exact HB.out | apply below_alloc | apply pw_below_drewN | apply below_drew1) | exact HB.out))) : w.heap.size ≤ gb122));clear HB;have HB:=n0_;have BK122:=n1_;have GW122:=n2_;have GE122:=n3_;clear n0_ n1_ n2_ n3_;clear hb hbox hg;obtain ⟨hcz7_0,hcz7_1,hcz7_2,hcz7_3,hcz7_4⟩:=bc5 BK122.out;obtain ⟨hfz7_0,hfz7_1,hfz7_2,hfz7_3,hfz7_4⟩:=bf5 BK122.out))
   go_ret
   exact ⟨by first | rfl | (simp [errW_none,errW_some] <;> rfl) | (simp [*,errW_none,errW_some] <;> rfl),by repeat (first | (with_reducible first | exact HB.out | apply below_alloc | apply pw_below_drewN | apply below_drew1 | refine below_set ?_ GE122.out) | exact HB.out)⟩
  ·rw [if_neg c5] at H
   have c5b0 : decide (8 < a0_3) = false:=decide_eq_false c5
   clear c5
   obtain rfl:=Option.some.inj H
   go_enter Try.func115,Try.ntmps115
   go_wp2_with (first | ((with_reducible refine gate_dst (N:=1) rfl ?_);refine box_event ?hg (N:=1) ?hd (cs := #[.bool a0_0, .int .u32 a0_1, .bool false, .int .i64 a0_3, .slice A0_4 l0_4.length c0_4]) (t:=45) ?hr ?_;(case hd => rfl);(case hg => rfl);(case hr => first | (go_simp;done) | (go_simp;rfl));intro gb122 hg w8 hbox hb;have n0_:=Aside0.mk (below_step (by repeat (first | (with_reducible first | exact HB.out | apply below_alloc | apply pw_below_drewN | apply below_drew1) | exact HB.out)) hb);have n1_:=Aside0.mk (hbox);have n2_:=Aside0.mk ((by rw [hg];exact (below_size (by repeat (first | (with_reducible first | exact HB.out | apply below_alloc | apply pw_below_drewN | apply below_drew1) | exact HB.out))) : w.heap.size ≤ gb122));have n3_:=Aside0.mk ((by rw [hg];exact (below_size (by repeat (first | (with_reducible first | exact HB.out | apply below_alloc | apply pw_below_drewN | apply below_drew1) | exact HB.out))) : w.heap.size ≤ gb122));clear HB;have HB:=n0_;have BK122:=n1_;have GW122:=n2_;have GE122:=n3_;clear n0_ n1_ n2_ n3_;clear hb hbox hg;obtain ⟨hcz9_0,hcz9_1,hcz9_2,hcz9_3,hcz9_4⟩:=bc5 BK122.out;obtain ⟨hfz9_0,hfz9_1,hfz9_2,hfz9_3,hfz9_4⟩:=bf5 BK122.out))
   go_ret
   exact ⟨by first | rfl | (simp [errW_none,errW_some] <;> rfl) | (simp [*,errW_none,errW_some] <;> rfl),by repeat (first | (with_reducible first | exact HB.out | apply below_alloc | apply pw_below_drewN | apply below_drew1 | refine below_set ?_ GE122.out) | exact HB.out)⟩
mutual
def spec_ValidFrame.j0 : Nat → Bool → Bool → Int → Bool → Int → List Int → Option (Bool)
 | 0,_,_,_,_,_,_ => none
 | k + 1,x9,x208000,x208001,x208002,x208003,x208004 => if x9 = true then (some false) else (if x208000 = true then (spec_ValidFrame.j1 k false x208000 x208001 x208002 x208003 x208004) else (spec_ValidFrame.j1 k (decide (x208001 ≥ 2048)) x208000 x208001 x208002 x208003 x208004))
def spec_ValidFrame.j1 : Nat → Bool → Bool → Int → Bool → Int → List Int → Option (Bool)
 | 0,_,_,_,_,_,_ => none
 | k + 1,x17,x208000,x208001,x208002,x208003,x208004 => if x17 = true then (some false) else (if x208003 < 0 then (some false) else (if x208003 > 15 then (some false) else ((spec_l1dataLen.f x208000 x208001 x208002 x208003 x208004).bind fun t208 => (some ((x208004.length : Int) == t208)))))
end
def spec_ValidFrame.f (k : Nat) (a0_0 : Bool) (a0_1 : Int) (a0_2 : Bool) (a0_3 : Int) (l0_4 : List Int) : Option (Bool):=if a0_0 = true then (spec_ValidFrame.j0 k (decide (a0_1 ≥ 536870912)) a0_0 a0_1 a0_2 a0_3 l0_4) else (spec_ValidFrame.j0 k false a0_0 a0_1 a0_2 a0_3 l0_4)
set_option maxHeartbeats 8000000 in
set_option maxRecDepth 100000 in
theorem spec_ValidFrame.calls (k : Nat) (a0_0 : Bool) (a0_1 : Int) (a0_2 : Bool) (a0_3 : Int) (A0_4 : Option Addr) (c0_4 : Nat) (l0_4 : List Int) (r : Bool) (w : World) (hr0_4 : Kd.C (Kd.int .u8) w A0_4 l0_4.length l0_4) (hc0_4 : l0_4.length ≤ c0_4) (h : spec_ValidFrame.f k a0_0 a0_1 a0_2 a0_3 l0_4 = some r) :
  Calls Try.prog 75 #[.agg #[.bool a0_0, .int .u32 a0_1, .bool a0_2, .int .i64 a0_3, .slice A0_4 l0_4.length c0_4]] w fun e w' => e = .returned (.bool r) ∧ Below w.heap.size w w':=by
 have hu45:=Try.underlying45
 have HR0_4:=Aside0.mk hr0_4
 have HC0_4:=Aside0.mk hc0_4
 clear hr0_4 hc0_4
 have HB:=Aside0.mk (Below.refl w.heap.size w)
 have H : (if a0_0 = true then (spec_ValidFrame.j0 k (decide (a0_1 ≥ 536870912)) a0_0 a0_1 a0_2 a0_3 l0_4) else (spec_ValidFrame.j0 k false a0_0 a0_1 a0_2 a0_3 l0_4)) = some r:=h
 clear h
 have HC2:=Aside0.mk H
 clear H
 go_enter Try.func75,Try.ntmps75
 go_upto_region 1 with (first | ((with_reducible refine gate_dst (N:=1) rfl ?_);refine box_event ?hg (N:=1) ?hd (cs := #[.bool a0_0, .int .u32 a0_1, .bool a0_2, .int .i64 a0_3, .slice A0_4 l0_4.length c0_4]) (t:=45) ?hr ?_;(case hd => rfl);(case hg => rfl);(case hr => first | (go_simp;done) | (go_simp;rfl));intro gb207 hg w3 hbox hb;have n0_:=Aside0.mk (below_step (by repeat (first | (with_reducible first | exact HB.out | apply below_alloc | apply pw_below_drewN | apply below_drew1) | exact HB.out)) hb);have n1_:=Aside0.mk (hbox);have n2_:=Aside0.mk ((by rw [hg];exact (below_size (by repeat (first | (with_reducible first | exact HB.out | apply below_alloc | apply pw_below_drewN | apply below_drew1) | exact HB.out))) : w.heap.size ≤ gb207));have n3_:=Aside0.mk ((by rw [hg];exact (below_size (by repeat (first | (with_reducible first | exact HB.out | apply below_alloc | apply pw_below_drewN | apply below_drew1) | exact HB.out))) : w.heap.size ≤ gb207));clear HB;have HB:=n0_;have BK207:=n1_;have GW207:=n2_;have GE207:=n3_;clear n0_ n1_ n2_ n3_;clear hb hbox hg))
 (try simp only [Act.put,List.setIfInBounds_toArray,List.set_cons_zero,List.set_cons_succ])
 go_cut [9] (fun v9 wc => ∃ (kq : Nat) (x9_1 : Bool),v9 = .bool x9_1 ∧ Aside0 (spec_ValidFrame.j0 kq x9_1 a0_0 a0_1 a0_2 a0_3 l0_4 = some r) ∧ Aside0 (kq ≤ k) ∧ Aside0 (wc.heap[gb207]? = some (.cells #[.bool a0_0, .int .u32 a0_1, .bool a0_2, .int .i64 a0_3,(.slice A0_4 l0_4.length c0_4)] 45 (0,0))) ∧ Aside0 (Below w.heap.size w wc))
 case first =>
  have H:=HC2.out
  clear HC2
  by_cases c4 : a0_0 = true
  ·subst c4
   have H1 : (spec_ValidFrame.j0 k (decide (a0_1 ≥ 536870912)) true a0_1 a0_2 a0_3 l0_4) = some r:=by rw [if_pos rfl] at H;exact H
   clear H
   have H:=H1
   clear H1
   have H':=Aside0.mk H
   clear H
   obtain ⟨hcz5_0,hcz5_1,hcz5_2,hcz5_3,hcz5_4⟩:=bc5 BK207.out
   obtain ⟨hfz5_0,hfz5_1,hfz5_2,hfz5_3,hfz5_4⟩:=bf5 BK207.out
   go_wp2
   go_meet
   case rel => exact ⟨_,(decide (a0_1 ≥ 536870912)),(by first | rfl | (simp;done) | (simp [*];done)),H',⟨by first | omega | exact Nat.le_refl _⟩,⟨by (with_reducible repeat (first | refine blk_drewN ?_ _ | refine blk_drew ?_ | refine blk_alloc ?_ _));exact BK207.out⟩,⟨by repeat (first | (with_reducible first | exact HB.out | apply below_alloc | apply pw_below_drewN | apply below_drew1 | refine below_set ?_ GE207.out) | exact HB.out)⟩⟩
  ·replace c4:=Bool.eq_false_iff.mpr c4
   subst c4
   have H1 : (spec_ValidFrame.j0 k false false a0_1 a0_2 a0_3 l0_4) = some r:=by rw [if_neg (show ¬ (false = true) by decide)] at H;exact H
   clear H
   have H:=H1
   clear H1
   have H':=Aside0.mk H
   clear H
   obtain ⟨hcz6_0,hcz6_1,hcz6_2,hcz6_3,hcz6_4⟩:=bc5 BK207.out
   obtain ⟨hfz6_0,hfz6_1,hfz6_2,hfz6_3,hfz6_4⟩:=bf5 BK207.out
   go_wp2
   go_meet
   case rel => exact ⟨_,(false),(by first | rfl | (simp;done) | (simp [*];done)),H',⟨by first | omega | exact Nat.le_refl _⟩,⟨by (with_reducible repeat (first | refine blk_drewN ?_ _ | refine blk_drew ?_ | refine blk_alloc ?_ _));exact BK207.out⟩,⟨by repeat (first | (with_reducible first | exact HB.out | apply below_alloc | apply pw_below_drewN | apply below_drew1 | refine below_set ?_ GE207.out) | exact HB.out)⟩⟩
 case rest =>
  clear HC2
  try clear p2
  try clear c4
  try clear hcz5_0
  try clear hcz5_1
  try clear hcz5_2
  try clear hcz5_3
  try clear hcz5_4
  try clear hcz6_0
  try clear hcz6_1
  try clear hcz6_2
  try clear hcz6_3
  try clear hcz6_4
  try clear hfz5_0
  try clear hfz5_1
  try clear hfz5_2
  try clear hfz5_3
  try clear hfz5_4
  try clear hfz6_0
  try clear hfz6_1
  try clear hfz6_2
  try clear hfz6_3
  try clear hfz6_4
  obtain ⟨kq,x9_1,rfl,HA,HJ1,BK207,HB⟩:=hcut
  cases kq with
  | zero => exact absurd HA.out (by simp [spec_ValidFrame.j0])
  | succ kj1 =>
   have H:=HA.out
   clear HA
   simp only [spec_ValidFrame.j0] at H
   by_cases c7 : x9_1 = true
   ·subst c7
    have H1 : (some false) = some r:=by rw [if_pos rfl] at H;exact H
    clear H
    have H:=H1
    clear H1
    obtain rfl:=Option.some.inj H
    go_wp2
    go_ret
    exact ⟨by first | rfl | (simp [errW_none,errW_some] <;> rfl) | (simp [*,errW_none,errW_some] <;> rfl),by repeat (first | (with_reducible first | exact HB.out | apply below_alloc | apply pw_below_drewN | apply below_drew1 | refine below_set ?_ GE207.out) | exact HB.out)⟩
   ·replace c7:=Bool.eq_false_iff.mpr c7
    subst c7
    have H1 : (if a0_0 = true then (spec_ValidFrame.j1 kj1 false a0_0 a0_1 a0_2 a0_3 l0_4) else (spec_ValidFrame.j1 kj1 (decide (a0_1 ≥ 2048)) a0_0 a0_1 a0_2 a0_3 l0_4)) = some r:=by rw [if_neg (show ¬ (false = true) by decide)] at H;exact H
    clear H
    have H:=H1
    clear H1
    have HC8:=Aside0.mk H
    clear H
    go_upto_region 3 with (fail)
    go_cut [17] (fun v17 wc => ∃ (kq : Nat) (x17_7 : Bool),v17 = .bool x17_7 ∧ Aside0 (spec_ValidFrame.j1 kq x17_7 a0_0 a0_1 a0_2 a0_3 l0_4 = some r) ∧ Aside0 (kq ≤ kj1) ∧ Aside0 (wc.heap[gb207]? = some (.cells #[.bool a0_0, .int .u32 a0_1, .bool a0_2, .int .i64 a0_3,(.slice A0_4 l0_4.length c0_4)] 45 (0,0))) ∧ Aside0 (Below w.heap.size w wc))
    case first =>
     have H:=HC8.out
     clear HC8
     by_cases c9 : a0_0 = true
     ·subst c9
      have H1 : (spec_ValidFrame.j1 kj1 false true a0_1 a0_2 a0_3 l0_4) = some r:=by rw [if_pos rfl] at H;exact H
      clear H
      have H:=H1
      clear H1
      have H':=Aside0.mk H
      clear H
      obtain ⟨hcz10_0,hcz10_1,hcz10_2,hcz10_3,hcz10_4⟩:=bc5 BK207.out
      obtain ⟨hfz10_0,hfz10_1,hfz10_2,hfz10_3,hfz10_4⟩:=bf5 BK207.out
      go_wp2
      go_meet
      case rel => exact ⟨_,(false),(by first | rfl | (simp;done) | (simp [*];done)),H',⟨by have:=HJ1.out;first | omega | exact Nat.le_refl _⟩,⟨by (with_reducible repeat (first | refine blk_drewN ?_ _ | refine blk_drew ?_ | refine blk_alloc ?_ _));exact BK207.out⟩,⟨by repeat (first | (with_reducible first | exact HB.out | apply below_alloc | apply pw_below_drewN | apply below_drew1 | refine below_set ?_ GE207.out) | exact HB.out)⟩⟩
     ·replace c9:=Bool.eq_false_iff.mpr c9
      subst c9
      have H1 : (spec_ValidFrame.j1 kj1 (decide (a0_1 ≥ 2048)) false a0_1 a0_2 a0_3 l0_4) = some r:=by rw [if_neg (show ¬ (false = true) by decide)] at H;exact H
      clear H
      have H:=H1
      clear H1
      have H':=Aside0.mk H
      clear H
      obtain ⟨hcz11_0,hcz11_1,hcz11_2,hcz11_3,hcz11_4⟩:=bc5 BK207.out
      obtain ⟨hfz11_0,hfz11_1,hfz11_2,hfz11_3,hfz11_4⟩:=bf5 BK207.out
      go_wp2
      go_meet
      case rel => exact ⟨_,(decide (a0_1 ≥ 2048)),(by first | rfl | (simp;done) | (simp [*];done)),H',⟨by have:=HJ1.out;first | omega | exact Nat.le_refl _⟩,⟨by (with_reducible repeat (first | refine blk_drewN ?_ _ | refine blk_drew ?_ | refine blk_alloc ?_ _));exact BK207.out⟩,⟨by repeat (first | (with_reducible first | exact HB.out | apply below_alloc | apply pw_below_drewN | apply below_drew1 | refine below_set ?_ GE207.out) | exact HB.out)⟩⟩
    case rest =>
     clear HC8
     try clear p2
     try clear c4
     try clear c7
     try clear c9
     try clear hcz10_0
     try clear hcz10_1
     try clear hcz10_2
     try clear hcz10_3
     try clear hcz10_4
     try clear hcz11_0
     try clear hcz11_1
     try clear hcz11_2
     try clear hcz11_3
     try clear hcz11_4
     try clear hcz5_0
     try clear hcz5_1
     try clear hcz5_2
     try clear hcz5_3
     try clear hcz5_4
     try clear hcz6_0
     try clear hcz6_1
     try clear hcz6_2
     try clear hcz6_3
     try clear hcz6_4
     try clear hfz10_0
     try clear hfz10_1
     try clear hfz10_2
     try clear hfz10_3
     try clear hfz10_4
     try clear hfz11_0
     try clear hfz11_1
     try clear hfz11_2
     try clear hfz11_3
     try clear hfz11_4
     try clear hfz5_0
     try clear hfz5_1
     try clear hfz5_2
     try clear hfz5_3
     try clear hfz5_4
     try clear hfz6_0
     try clear hfz6_1
     try clear hfz6_2
     try clear hfz6_3
     try clear hfz6_4
     try clear p2
     obtain ⟨kq,x17_7,rfl,HA,HJ7,BK207,HB⟩:=hcut
     cases kq with
     | zero => exact absurd HA.out (by simp [spec_ValidFrame.j1])
     | succ kj7 =>
      have H:=HA.out
      clear HA
      simp only [spec_ValidFrame.j1] at H
      by_cases c12 : x17_7 = true
      ·subst c12
       have H1 : (some false) = some r:=by rw [if_pos rfl] at H;exact H
       clear H
       have H:=H1
       clear H1
       obtain rfl:=Option.some.inj H
       go_wp2
       go_ret
       exact ⟨by first | rfl | (simp [errW_none,errW_some] <;> rfl) | (simp [*,errW_none,errW_some] <;> rfl),by repeat (first | (with_reducible first | exact HB.out | apply below_alloc | apply pw_below_drewN | apply below_drew1 | refine below_set ?_ GE207.out) | exact HB.out)⟩
      ·replace c12:=Bool.eq_false_iff.mpr c12
       subst c12
       have H1 : (if a0_3 < 0 then (some false) else (if a0_3 > 15 then (some false) else ((spec_l1dataLen.f a0_0 a0_1 a0_2 a0_3 l0_4).bind fun t208 => (some ((l0_4.length : Int) == t208))))) = some r:=by rw [if_neg (show ¬ (false = true) by decide)] at H;exact H
       clear H
       have H:=H1
       clear H1
       by_cases c13 : a0_3 < 0
       ·rw [if_pos c13] at H
        have c13b0 : decide (a0_3 < 0) = true:=decide_eq_true c13
        clear c13
        obtain rfl:=Option.some.inj H
        obtain ⟨hcz14_0,hcz14_1,hcz14_2,hcz14_3,hcz14_4⟩:=bc5 BK207.out
        obtain ⟨hfz14_0,hfz14_1,hfz14_2,hfz14_3,hfz14_4⟩:=bf5 BK207.out
        go_wp2
        go_ret
        exact ⟨by first | rfl | (simp [errW_none,errW_some] <;> rfl) | (simp [*,errW_none,errW_some] <;> rfl),by repeat (first | (with_reducible first | exact HB.out | apply below_alloc | apply pw_below_drewN | apply below_drew1 | refine below_set ?_ GE207.out) | exact HB.out)⟩
       ·rw [if_neg c13] at H
        have c13b0 : decide (a0_3 < 0) = false:=decide_eq_false c13
        clear c13
        by_cases c15 : a0_3 > 15
        ·rw [if_pos c15] at H
         have c15b0 : decide (15 < a0_3) = true:=decide_eq_true c15
         clear c15
         obtain rfl:=Option.some.inj H
         obtain ⟨hcz16_0,hcz16_1,hcz16_2,hcz16_3,hcz16_4⟩:=bc5 BK207.out
         obtain ⟨hfz16_0,hfz16_1,hfz16_2,hfz16_3,hfz16_4⟩:=bf5 BK207.out
         go_wp2
         go_ret
         exact ⟨by first | rfl | (simp [errW_none,errW_some] <;> rfl) | (simp [*,errW_none,errW_some] <;> rfl),by repeat (first | (with_reducible first | exact HB.out | apply below_alloc | apply pw_below_drewN | apply below_drew1 | refine below_set ?_ GE207.out) | exact HB.out)⟩
        ·rw [if_neg c15] at H
         have c15b0 : decide (15 < a0_3) = false:=decide_eq_false c15
         clear c15
         replace H:=Option.bind_eq_some_iff.mp H
         obtain ⟨t208,A170,H⟩:=H
         replace H : (some ((l0_4.length : Int) == t208)) = some r:=H
         have A17:=Aside0.mk A170
         clear A170
         obtain rfl:=Option.some.inj H
         obtain ⟨hcz18_0,hcz18_1,hcz18_2,hcz18_3,hcz18_4⟩:=bc5 BK207.out
         obtain ⟨hfz18_0,hfz18_1,hfz18_2,hfz18_3,hfz18_4⟩:=bf5 BK207.out
         try go_wp2
         have n0_:=Aside0.mk (blk_drew BK207.out)
         have n1_:=Aside0.mk (below_drew1 HB.out)
         clear BK207
         clear HB
         have BK207:=n0_
         have HB:=n1_
         clear n0_ n1_
         refine start_ (n:=7) (S:=fun w' => w'.cell? ⟨gb207,0,none⟩ = some (.bool a0_0) ∧ w'.cell? ⟨gb207,1,none⟩ = some (.int .u32 a0_1) ∧ w'.cell? ⟨gb207,2,none⟩ = some (.bool a0_2) ∧ w'.cell? ⟨gb207,3,none⟩ = some (.int .i64 a0_3) ∧ w'.cell? ⟨gb207,4,none⟩ = some (.slice A0_4 l0_4.length c0_4)) (ds := []) #[false,false,false,false,false,false,false] (by kernel_rfl) rfl rfl ⟨(blk_cell BK207.out 0).trans rfl,(blk_cell BK207.out 1).trans rfl,(blk_cell BK207.out 2).trans rfl,(blk_cell BK207.out 3).trans rfl,(blk_cell BK207.out 4).trans rfl⟩ (fun hHeld => ?_)
         generalize wc.drew = w19 at BK207 HB hHeld ⊢
         refine pure_ (i:=0) (N:=some 26) (v := ?_) (a' := ?_) #[true,false,false,false,false,false,false] rfl rfl (by kernel_rfl) (fun _ _ _ h => h) (Or.inl ⟨by rfl, ?_⟩) ?_ ?_
         rotate_left
         ·intro w'
          go_simp
          with_reducible rfl
         rotate_left
         ·simp only [Act.put,List.setIfInBounds_toArray,List.set_cons_zero,List.set_cons_succ,i64_w,i32_w]
          rfl
         refine take_ (i:=1) (N:=some 27) (v := ?_) (a' := ?_) #[true,true,false,false,false,false,false] rfl rfl (by kernel_rfl) (fun _ _ _ h => h) (Or.inl ⟨by rfl, ?_⟩) hHeld ?_ ?_
         rotate_left
         ·rintro w' ⟨s0,s1,s2,s3,s4⟩
          go_simp
          with_reducible rfl
         rotate_left
         ·simp only [Act.put,List.setIfInBounds_toArray,List.set_cons_zero,List.set_cons_succ,i64_w,i32_w]
          rfl
         refine pure_ (i:=2) (N:=some 28) (v := ?_) (a' := ?_) #[true,true,true,false,false,false,false] rfl rfl (by kernel_rfl) (fun _ _ _ h => h) (Or.inl ⟨by rfl, ?_⟩) ?_ ?_
         rotate_left
         ·intro w'
          go_simp
          with_reducible rfl
         rotate_left
         ·simp only [Act.put,List.setIfInBounds_toArray,List.set_cons_zero,List.set_cons_succ,i64_w,i32_w]
          rfl
         refine take_ (i:=3) (N:=some 29) (v := ?_) (a' := ?_) #[true,true,true,true,false,false,false] rfl rfl (by kernel_rfl) (fun _ _ _ h => h) (Or.inl ⟨by rfl, ?_⟩) hHeld ?_ ?_
         rotate_left
         ·rintro w' ⟨s0,s1,s2,s3,s4⟩
          go_simp
          with_reducible rfl
         rotate_left
         ·simp only [Act.put,List.setIfInBounds_toArray,List.set_cons_zero,List.set_cons_succ,i64_w,i32_w]
          rfl
         refine one_ (i:=4) (N:=some 30) #[true,true,true,true,true,false,false] rfl rfl (by kernel_rfl) (by decide) (fun K hK => ?_)
         refine goes_ Try.func115 (by kernel_rfl) rfl #[.agg #[.bool a0_0, .int .u32 a0_1, .bool a0_2, .int .i64 a0_3, .slice A0_4 l0_4.length c0_4]] (by rfl) rfl rfl (by (try simp only [List.map_toArray,List.map_cons,List.map_nil]);first | done | rfl | (simp only [List.length_drop,List.length_take];rfl)) ?_
         with_reducible refine (spec_l1dataLen.calls a0_0 a0_1 a0_2 a0_3 _ _ l0_4 t208 _ ?side1 ?side2 A17.out).mono ?_
         (case side1 => repeat (first | exact (Kd.C_below HR0_4.out HB.out) | (with_reducible refine Kd.C_alloc ?_ _) | (with_reducible refine Kd.C_drewN ?_ _) | (with_reducible refine Kd.C_drew ?_)))
         (case side2 => exact HC0_4.out)
         rintro e w20 ⟨rfl,hb⟩
         refine ⟨_,rfl, ?_⟩
         have n0_:=Aside0.mk (blk_below (g:=gb207) (o := .cells #[.bool a0_0, .int .u32 a0_1, .bool a0_2, .int .i64 a0_3, .slice A0_4 l0_4.length c0_4] 45 (0,0)) (by (with_reducible repeat (first | refine blk_drewN ?_ _ | refine blk_drew ?_ | refine blk_alloc ?_ _));exact BK207.out) hb)
         have n1_:=Aside0.mk (below_step (by repeat (first | (with_reducible first | exact HB.out | apply below_alloc | apply pw_below_drewN | apply below_drew1 | refine below_set ?_ GE207.out) | exact HB.out)) hb)
         clear BK207
         clear HB
         have BK207:=n0_
         have HB:=n1_
         clear n0_ n1_
         (try clear hb)
         (try clear hb2)
         (try clear hk)
         (try clear hi)
         refine hK.out _ _ ⟨(blk_cell BK207.out 0).trans rfl,(blk_cell BK207.out 1).trans rfl,(blk_cell BK207.out 2).trans rfl,(blk_cell BK207.out 3).trans rfl,(blk_cell BK207.out 4).trans rfl⟩ (fun hHeld => ?_)
         clear hK K
         refine norm_ (a' := ?_) ?_ ?_
         rotate_left
         ·show Act.put _ (some 30) _ = _
          simp only [Act.put,List.setIfInBounds_toArray,List.set_cons_zero,List.set_cons_succ,i64_w,i32_w]
          rfl
         refine pure_ (i:=5) (N:=some 31) (v := ?_) (a' := ?_) #[true,true,true,true,true,true,false] rfl rfl (by kernel_rfl) (fun _ _ _ h => h) (Or.inl ⟨by rfl, ?_⟩) ?_ ?_
         rotate_left
         ·intro w'
          go_simp
          with_reducible rfl
         rotate_left
         ·simp only [Act.put,List.setIfInBounds_toArray,List.set_cons_zero,List.set_cons_succ,i64_w,i32_w]
          rfl
         refine pure_ (i:=6) (N:=some 2) (v := ?_) (a' := ?_) #[true,true,true,true,true,true,true] rfl rfl (by kernel_rfl) (fun _ _ _ h => h) (Or.inl ⟨by rfl, ?_⟩) ?_ ?_
         rotate_left
         ·intro w'
          go_simp
          with_reducible rfl
         rotate_left
         ·simp only [Act.put,List.setIfInBounds_toArray,List.set_cons_zero,List.set_cons_succ,i64_w,i32_w]
          rfl
         refine done_ (by kernel_rfl) ?_
         try go_wp2
         go_ret
         exact ⟨by first | rfl | (simp [errW_none,errW_some] <;> rfl) | (simp [*,errW_none,errW_some] <;> rfl),by repeat (first | (with_reducible first | exact HB.out | apply below_alloc | apply pw_below_drewN | apply below_drew1 | refine below_set ?_ GE207.out) | exact HB.out)⟩
end Go.Proofs.Ytcaefabbcjlkdaa.P
namespace Go.Proofs.Ytcaefabbcjlkdaa.P
open Go Go.RowKit Go.Proofs.YtcaefabbcjlkdaaW.PrintWords
set_option linter.unusedVariables false
theorem specValid_ev (e : Bool) (i : Int) (r : Bool) (d : Int) (l : List Int) : Ev (fun k => spec_ValidFrame.f k e i r d l) (validF e i r d l.length):=by
 have hd : ∀ a b c,spec_l1dataLen.f a b r c l = some (dataB r c):=by
  intro a b c
  unfold spec_l1dataLen.f dataB
  cases r
  ·rw [if_neg (show ¬ (false = true) by decide),if_neg (show ¬ (false = true) by decide)]
   by_cases h : c > 8
   ·rw [if_pos h,if_pos (show 8 < c from h)]
   ·rw [if_neg h,if_neg (show ¬ 8 < c from h)]
  ·rfl
 have h1 : ∀ b,Ev (fun k => spec_ValidFrame.j1 k b e i r d l) (!b && (decide (0 ≤ d) && (decide (d ≤ 15) && ((l.length : Int) == dataB r d)))):=by
  intro b
  refine Ev.step (f:=fun _ => some (!b && (decide (0 ≤ d) && (decide (d ≤ 15) && ((l.length : Int) == dataB r d))))) (fun k => ?_) (Ev.now _)
  simp only [spec_ValidFrame.j1]
  cases b
  ·rw [if_neg (by decide)]
   by_cases c1 : d < 0
   ·rw [if_pos c1,decide_eq_false (by omega)];rfl
   ·rw [if_neg c1,decide_eq_true (show 0 ≤ d by omega)]
    by_cases c2 : d > 15
    ·rw [if_pos c2,decide_eq_false (by omega)];rfl
    ·rw [if_neg c2,decide_eq_true (show d ≤ 15 by omega),hd,Option.bind_some];simp
  ·rfl
 have h0 : ∀ b,Ev (fun k => spec_ValidFrame.j0 k b e i r d l) (!b && ((e || decide (i < 2048)) && (decide (0 ≤ d) && (decide (d ≤ 15) && ((l.length : Int) == dataB r d))))):=by
  intro b
  cases b
  ·cases e
   ·refine Ev.step (fun k => ?_) (g:=fun k => spec_ValidFrame.j0 k false false i r d l) (f:=fun k => spec_ValidFrame.j1 k (decide (i ≥ 2048)) false i r d l) ?_
    ·simp only [spec_ValidFrame.j0]
     rw [if_neg (by decide),if_neg (by decide)]
    ·have:=h1 (decide (i ≥ 2048))
     have e1 : (!decide (i ≥ 2048)) = decide (i < 2048):=by
      by_cases c : i < 2048
      ·rw [decide_eq_true c,decide_eq_false (by omega)];rfl
      ·rw [decide_eq_false c,decide_eq_true (by omega)];rfl
     rw [e1] at this
     exact this
   ·refine Ev.step (fun k => ?_) (g:=fun k => spec_ValidFrame.j0 k false true i r d l) (f:=fun k => spec_ValidFrame.j1 k false true i r d l) (h1 false)
    simp only [spec_ValidFrame.j0]
    rw [if_neg (by decide),if_pos trivial]
  ·refine Ev.step (f:=fun _ => some false) (fun k => ?_) (Ev.now _)
   simp only [spec_ValidFrame.j0]
   rfl
 cases e
 ·refine Ev.congr (f:=fun k => spec_ValidFrame.j0 k false false i r d l) (fun k => ?_) (h0 false)
  unfold spec_ValidFrame.f
  rw [if_neg (by decide)]
 ·refine Ev.congr (f:=fun k => spec_ValidFrame.j0 k (decide (i ≥ 536870912)) true i r d l) (fun k => ?_) ?_
  ·unfold spec_ValidFrame.f
   rw [if_pos rfl]
  ·have:=h0 (decide (i ≥ 536870912))
   have e1 : (!decide (i ≥ 536870912)) = decide (i < 536870912):=by
    by_cases c : i < 536870912
    ·rw [decide_eq_true c,decide_eq_false (by omega)];rfl
    ·rw [decide_eq_false c,decide_eq_true (by omega)];rfl
   rw [e1,Bool.true_or,Bool.true_and] at this
   exact this
end Go.Proofs.Ytcaefabbcjlkdaa.P
namespace Go.Proofs.Ytcaefabbcjlkdaa.P
open Go.RowKit Go.Proofs.YtcaefabbcjlkdaaW.PrintWords Go.Proofs.YtcaefabbcjlkdaaW.PrintLast Go.Proofs.YtcaefabbcjlkdaaW.PrintMore
set_option linter.unusedVariables false
set_option linter.unusedSimpArgs false
def spec_l3zeroFrame.f (a0_0 : Bool) (a0_1 : Int) (a0_2 : Bool) (a0_3 : Int) (l0_4 : List Int) : Option (Bool):=if a0_0 = true then (some false) else (if a0_1 = 0 then (if a0_2 = true then (some false) else (if a0_3 = 0 then (some ((l0_4.length : Int) == 0)) else (some false))) else (some false))
set_option maxHeartbeats 8000000 in
set_option maxRecDepth 100000 in
theorem spec_l3zeroFrame.calls (a0_0 : Bool) (a0_1 : Int) (a0_2 : Bool) (a0_3 : Int) (A0_4 : Option Addr) (c0_4 : Nat) (l0_4 : List Int) (r : Bool) (w : World) (hr0_4 : Kd.C (Kd.int .u8) w A0_4 l0_4.length l0_4) (hc0_4 : l0_4.length ≤ c0_4) (h : spec_l3zeroFrame.f a0_0 a0_1 a0_2 a0_3 l0_4 = some r) :
  Calls Try.prog 127 #[.agg #[.bool a0_0, .int .u32 a0_1, .bool a0_2, .int .i64 a0_3, .slice A0_4 l0_4.length c0_4]] w fun e w' => e = .returned (.bool r) ∧ Below w.heap.size w w':=by
 have hu45:=Try.underlying45
 have HR0_4:=Aside0.mk hr0_4
 have HC0_4:=Aside0.mk hc0_4
 clear hr0_4 hc0_4
 have HB:=Aside0.mk (Below.refl w.heap.size w)
 have H : (if a0_0 = true then (some false) else (if a0_1 = 0 then (if a0_2 = true then (some false) else (if a0_3 = 0 then (some ((l0_4.length : Int) == 0)) else (some false))) else (some false))) = some r:=h
 clear h
 by_cases c2 : a0_0 = true
 ·subst c2
  have H1 : (some false) = some r:=by rw [if_pos rfl] at H;exact H
  clear H
  have H:=H1
  clear H1
  obtain rfl:=Option.some.inj H
  go_enter Try.func127,Try.ntmps127
  go_wp2_with (first | ((with_reducible refine gate_dst (N:=1) rfl ?_);(try (refine gate_guard (by rfl) ?_;dsimp only));refine box_event ?hg (N:=1) ?hd (cs := #[.bool true, .int .u32 a0_1, .bool a0_2, .int .i64 a0_3, .slice A0_4 l0_4.length c0_4]) (t:=45) ?hr ?_;(case hd => rfl);(case hg => rfl);(case hr => first | (go_simp;done) | (go_simp;rfl));intro gb395 hg w3 hbox hb;have n0_:=Aside0.mk (below_step (by repeat (first | (with_reducible first | exact HB.out | apply below_alloc | apply pw_below_drewN | apply below_drew1) | exact HB.out)) hb);have n1_:=Aside0.mk (hbox);have n2_:=Aside0.mk ((by rw [hg];exact (below_size (by repeat (first | (with_reducible first | exact HB.out | apply below_alloc | apply pw_below_drewN | apply below_drew1) | exact HB.out))) : w.heap.size ≤ gb395));have n3_:=Aside0.mk ((by rw [hg];exact (below_size (by repeat (first | (with_reducible first | exact HB.out | apply below_alloc | apply pw_below_drewN | apply below_drew1) | exact HB.out))) : w.heap.size ≤ gb395));clear HB;have HB:=n0_;have BK395:=n1_;have GW395:=n2_;have GE395:=n3_;clear n0_ n1_ n2_ n3_;clear hb hbox hg;obtain ⟨hcz4_0,hcz4_1,hcz4_2,hcz4_3,hcz4_4⟩:=bc5 BK395.out;obtain ⟨hfz4_0,hfz4_1,hfz4_2,hfz4_3,hfz4_4⟩:=bf5 BK395.out))
  go_ret
  exact ⟨by first | rfl | (simp [errW_none,errW_some] <;> rfl) | (simp [*,errW_none,errW_some] <;> rfl),by repeat (first | (with_reducible first | exact HB.out | apply below_alloc | apply pw_below_drewN | apply below_drew1 | refine below_set ?_ GE395.out) | exact HB.out)⟩
 ·replace c2:=Bool.eq_false_iff.mpr c2
  subst c2
  have H1 : (if a0_1 = 0 then (if a0_2 = true then (some false) else (if a0_3 = 0 then (some ((l0_4.length : Int) == 0)) else (some false))) else (some false)) = some r:=by rw [if_neg (show ¬ (false = true) by decide)] at H;exact H
  clear H
  have H:=H1
  clear H1
  by_cases c5 : a0_1 = 0
  ·rw [if_pos c5] at H
   have c5b0 : (a0_1 == 0) = true:=beq_iff_eq.mpr c5
   have c5b1 : (a0_1 != 0) = false:=bne_eq_false_iff_eq.mpr c5
   clear c5
   by_cases c6 : a0_2 = true
   ·subst c6
    have H1 : (some false) = some r:=by rw [if_pos rfl] at H;exact H
    clear H
    have H:=H1
    clear H1
    obtain rfl:=Option.some.inj H
    go_enter Try.func127,Try.ntmps127
    go_wp2_with (first | ((with_reducible refine gate_dst (N:=1) rfl ?_);(try (refine gate_guard (by rfl) ?_;dsimp only));refine box_event ?hg (N:=1) ?hd (cs := #[.bool false, .int .u32 a0_1, .bool true, .int .i64 a0_3, .slice A0_4 l0_4.length c0_4]) (t:=45) ?hr ?_;(case hd => rfl);(case hg => rfl);(case hr => first | (go_simp;done) | (go_simp;rfl));intro gb395 hg w7 hbox hb;have n0_:=Aside0.mk (below_step (by repeat (first | (with_reducible first | exact HB.out | apply below_alloc | apply pw_below_drewN | apply below_drew1) | exact HB.out)) hb);have n1_:=Aside0.mk (hbox);have n2_:=Aside0.mk ((by rw [hg];exact (below_size (by repeat (first | (with_reducible first | exact HB.out | apply below_alloc | apply pw_below_drewN | apply below_drew1) | exact HB.out))) : w.heap.size ≤ gb395));have n3_:=Aside0.mk ((by rw [hg];exact (below_size (by repeat (first | (with_reducible first | exact HB.out | apply below_alloc | apply pw_below_drewN | apply below_drew1) | exact HB.out))) : w.heap.size ≤ gb395));clear HB;have HB:=n0_;have BK395:=n1_;have GW395:=n2_;have GE395:=n3_;clear n0_ n1_ n2_ n3_;clear hb hbox hg;obtain ⟨hcz8_0,hcz8_1,hcz8_2,hcz8_3,hcz8_4⟩:=bc5 BK395.out;obtain ⟨hfz8_0,hfz8_1,hfz8_2,hfz8_3,hfz8_4⟩:=bf5 BK395.out))
    go_ret
    exact ⟨by first | rfl | (simp [errW_none,errW_some] <;> rfl) | (simp [*,errW_none,errW_some] <;> rfl),by repeat (first | (with_reducible first | exact HB.out | apply below_alloc | apply pw_below_drewN | apply below_drew1 | refine below_set ?_ GE395.out) | exact HB.out)⟩
   ·replace c6:=Bool.eq_false_iff.mpr c6
    subst c6
    have H1 : (if a0_3 = 0 then (some ((l0_4.length : Int) == 0)) else (some false)) = some r:=by rw [if_neg (show ¬ (false = true) by decide)] at H;exact H
    clear H
    have H:=H1
    clear H1
    by_cases c9 : a0_3 = 0
    ·rw [if_pos c9] at H
     have c9b0 : (a0_3 == 0) = true:=beq_iff_eq.mpr c9
     have c9b1 : (a0_3 != 0) = false:=bne_eq_false_iff_eq.mpr c9
     clear c9
     obtain rfl:=Option.some.inj H
     go_enter Try.func127,Try.ntmps127
     go_wp2_with (first | ((with_reducible refine gate_dst (N:=1) rfl ?_);(try (refine gate_guard (by rfl) ?_;dsimp only));refine box_event ?hg (N:=1) ?hd (cs := #[.bool false, .int .u32 a0_1, .bool false, .int .i64 a0_3, .slice A0_4 l0_4.length c0_4]) (t:=45) ?hr ?_;(case hd => rfl);(case hg => rfl);(case hr => first | (go_simp;done) | (go_simp;rfl));intro gb395 hg w10 hbox hb;have n0_:=Aside0.mk (below_step (by repeat (first | (with_reducible first | exact HB.out | apply below_alloc | apply pw_below_drewN | apply below_drew1) | exact HB.out)) hb);have n1_:=Aside0.mk (hbox);have n2_:=Aside0.mk ((by rw [hg];exact (below_size (by repeat (first | (with_reducible first | exact HB.out | apply below_alloc | apply pw_below_drewN | apply below_drew1) | exact HB.out))) : w.heap.size ≤ gb395));have n3_:=Aside0.mk ((by rw [hg];exact (below_size (by repeat (first | (with_reducible first | exact HB.out | apply below_alloc | apply pw_below_drewN | apply below_drew1) | exact HB.out))) : w.heap.size ≤ gb395));clear HB;have HB:=n0_;have BK395:=n1_;have GW395:=n2_;have GE395:=n3_;clear n0_ n1_ n2_ n3_;clear hb hbox hg;obtain ⟨hcz11_0,hcz11_1,hcz11_2,hcz11_3,hcz11_4⟩:=bc5 BK395.out;obtain ⟨hfz11_0,hfz11_1,hfz11_2,hfz11_3,hfz11_4⟩:=bf5 BK395.out))
     go_ret
     exact ⟨by first | rfl | (simp [errW_none,errW_some] <;> rfl) | (simp [*,errW_none,errW_some] <;> rfl),by repeat (first | (with_reducible first | exact HB.out | apply below_alloc | apply pw_below_drewN | apply below_drew1 | refine below_set ?_ GE395.out) | exact HB.out)⟩
    ·rw [if_neg c9] at H
     have c9b0 : (a0_3 == 0) = false:=beq_eq_false_iff_ne.mpr c9
     have c9b1 : (a0_3 != 0) = true:=bne_iff_ne.mpr c9
     obtain rfl:=Option.some.inj H
     go_enter Try.func127,Try.ntmps127
     go_wp2_with (first | ((with_reducible refine gate_dst (N:=1) rfl ?_);(try (refine gate_guard (by rfl) ?_;dsimp only));refine box_event ?hg (N:=1) ?hd (cs := #[.bool false, .int .u32 a0_1, .bool false, .int .i64 a0_3, .slice A0_4 l0_4.length c0_4]) (t:=45) ?hr ?_;(case hd => rfl);(case hg => rfl);(case hr => first | (go_simp;done) | (go_simp;rfl));intro gb395 hg w12 hbox hb;have n0_:=Aside0.mk (below_step (by repeat (first | (with_reducible first | exact HB.out | apply below_alloc | apply pw_below_drewN | apply below_drew1) | exact HB.out)) hb);have n1_:=Aside0.mk (hbox);have n2_:=Aside0.mk ((by rw [hg];exact (below_size (by repeat (first | (with_reducible first | exact HB.out | apply below_alloc | apply pw_below_drewN | apply below_drew1) | exact HB.out))) : w.heap.size ≤ gb395));have n3_:=Aside0.mk ((by rw [hg];exact (below_size (by repeat (first | (with_reducible first | exact HB.out | apply below_alloc | apply pw_below_drewN | apply below_drew1) | exact HB.out))) : w.heap.size ≤ gb395));clear HB;have HB:=n0_;have BK395:=n1_;have GW395:=n2_;have GE395:=n3_;clear n0_ n1_ n2_ n3_;clear hb hbox hg;obtain ⟨hcz13_0,hcz13_1,hcz13_2,hcz13_3,hcz13_4⟩:=bc5 BK395.out;obtain ⟨hfz13_0,hfz13_1,hfz13_2,hfz13_3,hfz13_4⟩:=bf5 BK395.out))
     go_ret
     exact ⟨by first | rfl | (simp [errW_none,errW_some] <;> rfl) | (simp [*,errW_none,errW_some] <;> rfl),by repeat (first | (with_reducible first | exact HB.out | apply below_alloc | apply pw_below_drewN | apply below_drew1 | refine below_set ?_ GE395.out) | exact HB.out)⟩
  ·rw [if_neg c5] at H
   have c5b0 : (a0_1 == 0) = false:=beq_eq_false_iff_ne.mpr c5
   have c5b1 : (a0_1 != 0) = true:=bne_iff_ne.mpr c5
   obtain rfl:=Option.some.inj H
   go_enter Try.func127,Try.ntmps127
   go_wp2_with (first | ((with_reducible refine gate_dst (N:=1) rfl ?_);(try (refine gate_guard (by rfl) ?_;dsimp only));refine box_event ?hg (N:=1) ?hd (cs := #[.bool false, .int .u32 a0_1, .bool a0_2, .int .i64 a0_3, .slice A0_4 l0_4.length c0_4]) (t:=45) ?hr ?_;(case hd => rfl);(case hg => rfl);(case hr => first | (go_simp;done) | (go_simp;rfl));intro gb395 hg w14 hbox hb;have n0_:=Aside0.mk (below_step (by repeat (first | (with_reducible first | exact HB.out | apply below_alloc | apply pw_below_drewN | apply below_drew1) | exact HB.out)) hb);have n1_:=Aside0.mk (hbox);have n2_:=Aside0.mk ((by rw [hg];exact (below_size (by repeat (first | (with_reducible first | exact HB.out | apply below_alloc | apply pw_below_drewN | apply below_drew1) | exact HB.out))) : w.heap.size ≤ gb395));have n3_:=Aside0.mk ((by rw [hg];exact (below_size (by repeat (first | (with_reducible first | exact HB.out | apply below_alloc | apply pw_below_drewN | apply below_drew1) | exact HB.out))) : w.heap.size ≤ gb395));clear HB;have HB:=n0_;have BK395:=n1_;have GW395:=n2_;have GE395:=n3_;clear n0_ n1_ n2_ n3_;clear hb hbox hg;obtain ⟨hcz15_0,hcz15_1,hcz15_2,hcz15_3,hcz15_4⟩:=bc5 BK395.out;obtain ⟨hfz15_0,hfz15_1,hfz15_2,hfz15_3,hfz15_4⟩:=bf5 BK395.out))
   go_ret
   exact ⟨by first | rfl | (simp [errW_none,errW_some] <;> rfl) | (simp [*,errW_none,errW_some] <;> rfl),by repeat (first | (with_reducible first | exact HB.out | apply below_alloc | apply pw_below_drewN | apply below_drew1 | refine below_set ?_ GE395.out) | exact HB.out)⟩
end Go.Proofs.Ytcaefabbcjlkdaa.P
