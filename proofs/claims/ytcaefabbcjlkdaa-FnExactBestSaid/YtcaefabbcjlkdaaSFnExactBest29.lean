/- Texts of the proof of FnExactBest, joined. -/
import Derived.Test.YtcaefabbcjlkdaaSFnExactBest27
import Derived.Test.YtcaefabbcjlkdaaSFnExactBest28
import Derived.Deep.RegionHeld
import Derived.Test.YtcaefabbcjlkdaaSFnExactBest22
import Derived.Deep.QuietTactic
import Derived.BigQuiet
namespace Go.Proofs.Ytcaefabbcjlkdaa.P
open Go Go.RowKit Go.Proofs.YtcaefabbcjlkdaaW.PrintWords Go.Proofs.YtcaefabbcjlkdaaW.PrintLast Go.Proofs.YtcaefabbcjlkdaaW.PrintMore
set_option linter.unusedVariables false
set_option linter.unusedSimpArgs false
theorem len_run {P : Program} {W : World} {t kt et : TypeId} {m n : Nat} {f : Int → Option Int} (hm : P.underlying t = some (.map kt et)) (h : MapAt W m f n) (ty : TypeId) : Sem.run P (Builtin.len_ #[t] ty #[.map (some m)]) W = .ok (.int .i64 n) W:=by
 obtain ⟨es,cl,hb,_,_,_,hz⟩:=h
 have e : Sem.run P (Builtin.len_ #[t] ty #[.map (some m)]) W = (Builtin.len_ #[t] ty #[.map (some m)]).run P W:=rfl
 rw [e]
 simp [Builtin.len_,run_underlying hm,Go.MapKept.run_getObj_map hb,Result.andThen,hz,goInt]
theorem isF {o : Bool} {p : Prop} (h : o = true ↔ p) (hn : ¬ p) : o = false:=by
 cases o with
 | false => rfl
 | true => exact absurd (h.1 rfl) hn
theorem zeroFrame_at (x : S45) (A : Option Addr) (c : Nat) (w : World) (z : Bool) (hz : zeroB x = z) :
  Calls Try.prog 143 #[.agg #[.bool x.f0, .int .u32 x.f1, .bool x.f2, .int .i64 x.f3, .slice A x.f4.length c]] w fun e w' => e = .returned (.bool z) ∧ Below w.heap.size w w':=by
 rw [← hz];exact zeroFrame_v x A c w
theorem validFrame_at (x : S45) (A : Option Addr) (c : Nat) (w : World) (z : Bool) (hz : valF x = z) (hn : x.f4.length ≤ 10000000) :
  Calls Try.prog 119 #[.agg #[.bool x.f0, .int .u32 x.f1, .bool x.f2, .int .i64 x.f3, .slice A x.f4.length c]] w fun e w' => e = .returned (.bool z) ∧ Below w.heap.size w w':=by
 rw [← hz];exact impl_ValidFrame.any x.f0 x.f1 x.f2 x.f3 A c x.f4.length w (Nat.le_trans hn (by decide))
set_option maxRecDepth 100000 in
set_option maxHeartbeats 8000000 in
theorem goodBoxes_v (h : HV) (o : Bool) (ho : o = true ↔ GoodB h.stamp h.bs) (w : World) (C : List Value) (hR : HRead w h C) (hS : HSm h) :
  Calls Try.prog 117 #[.agg ⟨C⟩] w fun e w' => e = .returned (.bool o) ∧ Below w.heap.size w w':=by
 obtain ⟨Af,cf,Ab,cb,Aq,cq,Ae,ce,rfl,_,_,rb,lb,_,_,_,_⟩:=hR
 have RB:=Lib.hid rb
 have HO:=Lib.hid ho
 have SM:=Lib.hid hS
 clear rb ho hS
 have HB_0 : Hid (Below w.heap.size w w):=Lib.hid (Below.refl _ _)
 go_enter Try.func117,Try.ntmps117
 go_upto_region 1 with (first | ((with_reducible refine gate_dst (N:=1) rfl ?_);refine box_event ?hg (N:=1) ?hd (cs:=⟨hostC h (.slice Af h.fs.length cf) (.slice Ab h.bs.length cb) (.slice Aq h.fr.length cq) (.slice Ae h.ev.length ce)⟩) (t:=32) ?hr ?_;(case hd => rfl);(case hg => rfl);(case hr => first | (go_simp;done) | (go_simp;rfl));intro g1 hg w1 hbox hb;have LO_HB_g1 : Hid (w.heap.size ≤ g1):=Lib.hid (by rw [hg];exact HB_0.out.size);have HEg1:=Lib.hid hg;have HB_1:=Lib.hid (below_then HB_0.out HB_0.out.size hb);have Xg1_1:=Lib.hid hbox;clear hg hbox hb))
 go_upto_region 2 with (first | ((with_reducible refine gate_dst (N:=11) rfl ?_);refine map_event rfl ?hr ?_;(case hr => first | (go_simp;done) | (go_simp;rfl));intro m3 hm w2 hmap hb;have LMm3 : Hid (w.heap.size ≤ m3):=Lib.hid (by rw [hm];exact HB_1.out.size);have NE_g1_m3 : Hid (g1 ≠ m3):=Lib.hid (fun e => by have h1:=blk_lt Xg1_1.out;omega);have HB_2:=Lib.hid (below_then HB_1.out HB_1.out.size hb);have Xg1_2:=Lib.hid (blk_below Xg1_1.out hb);have M3_2:=Lib.hid (MapAt.new hmap);clear hm hmap hb) | ((with_reducible refine gate_dst (N:=12) rfl ?_);refine map_event rfl ?hr ?_;(case hr => first | (go_simp;done) | (go_simp;rfl));intro m4 hm w3 hmap hb;have LMm4 : Hid (w.heap.size ≤ m4):=Lib.hid (by rw [hm];exact HB_2.out.size);have NE_g1_m4 : Hid (g1 ≠ m4):=Lib.hid (fun e => by have h1:=blk_lt Xg1_2.out;omega);have NE_m3_m4 : Hid (m3 ≠ m4):=Lib.hid (fun e => by have h1:=M3_2.out.lt;omega);have HB_3:=Lib.hid (below_then HB_2.out HB_2.out.size hb);have Xg1_3:=Lib.hid (blk_below Xg1_2.out hb);have M3_3:=Lib.hid (M3_2.out.below hb);have M4_3:=Lib.hid (MapAt.new hmap);clear hm hmap hb))
 have y5 : w3.cell? ⟨g1,5,none⟩ = some (.slice Ab h.bs.length cb):=blk_cell Xg1_3.out 5
 go_wp2_with (fail)
 clear y5
 go_loopw [16,5] (fun v16 v5 wr => ∃ i : Nat,i ≤ h.bs.length ∧ v16 = .int .i64 i ∧ v5 = .int .i64 (busyN h.bs i) ∧ Aside0 (∀ j,j < i → boxOk h.stamp (bxAt h.bs j)) ∧ Aside0 (MapAt wr m3 (keyUp (·.f1) h.bs i).1 (keyUp (·.f1) h.bs i).2) ∧ Aside0 (MapAt wr m4 (keyUp (·.f2) h.bs i).1 (keyUp (·.f2) h.bs i).2) ∧ Aside0 ((keyUp (·.f1) h.bs i).2 = (keyUp (·.f2) h.bs i).2) ∧ Aside0 (wr.heap[g1]? = some (.cells ⟨hostC h (.slice Af h.fs.length cf) (.slice Ab h.bs.length cb) (.slice Aq h.fr.length cq) (.slice Ae h.ev.length ce)⟩ 32 (0,0))) ∧ Aside0 (Below w.heap.size w wr)) (fun v16 _ _ => h.bs.length - (intOf v16).toNat)
 case atStart => exact ⟨0,Nat.zero_le _,rfl,rfl,⟨fun j hj => absurd hj (Nat.not_lt_zero _)⟩,⟨M3_3.out⟩,⟨M4_3.out⟩,⟨rfl⟩,⟨Xg1_3.out⟩,⟨HB_3.out⟩⟩
 case round =>
  clear M3_3 M4_3 Xg1_3 HB_3
  obtain ⟨i,hi,rfl,rfl,HONE,HM3,HM4,HEQ,HX,HB⟩:=hrel
  by_cases hlt : i < h.bs.length
  ·have b2 : decide ((i : Int) < (h.bs.length : Int)) = true:=decide_eq_true (by omega)
   have p5 : (0 ≤ (i : Int)) = True:=eq_true (by omega)
   have q5 : ((i : Int) < (h.bs.length : Int)) = True:=eq_true (by omega)
   have qn : (i < h.bs.length) = True:=eq_true hlt
   have hn : wrap64 ((i : Int) + 1) = (i : Int) + 1:=by have:=SM.out.l2;unfold wrap64;omega
   have HLT:=Lib.hid hlt
   have HI:=Lib.hid hi
   have HN:=Lib.hid hn
   obtain ⟨ad,A8,c8,ea,k0,k1,k2,k3,k4,k5,k6,k7,l8,g8⟩:=at_T87 (Kd.C_below RB.out HB.out) (i : Int) (by omega) (by omega)
   subst ea
   clear hlt hi l8 g8
   rw [Int.toNat_natCast] at k0 k1 k2 k3 k4 k5 k6 k7
   obtain ⟨b,hb⟩ : ∃ b,b = rd_T87 h.bs (i : Int):=⟨_,rfl⟩
   rw [← hb] at k0 k1 k2 k3 k4 k5 k6 k7
   have HBE:=Lib.hid hb
   have HBX : Hid (b = bxAt h.bs i):=Lib.hid hb
   have HD8 : Hid (b.f3.f4.length ≤ 10000000):=Lib.hid (by rw [hb];exact SM.out.d2 _ (List.mem_of_getElem? (getD_at h.bs i z87 HLT.out)))
   clear hb
   go_upto_region 6 with (first | ((with_reducible refine gate_dst (N:=7) rfl ?_);refine box_event ?hg (N:=7) ?hd (cs := #[.int .i64 0, .int .i64 0, .int .i64 0, .bool false, .int .u32 0, .bool false, .int .i64 0, .slice none 0 0]) (t:=87) ?hr ?_;(case hd => rfl);(case hg => rfl);(case hr => first | (go_simp;done) | (go_simp;rfl));intro gb hg w1 hbox hb;have LO_HB_gb : Hid (w.heap.size ≤ gb):=Lib.hid (by rw [hg];exact HB.out.size);have NE_g1_gb : Hid (g1 ≠ gb):=Lib.hid (fun e => by have h1:=blk_lt HX.out;omega);have HEgb:=Lib.hid hg;have HB_1:=Lib.hid (below_then HB.out HB.out.size hb);have X_1:=Lib.hid (blk_below HX.out hb);have M3_1:=Lib.hid (HM3.out.below hb);have M4_1:=Lib.hid (HM4.out.below hb);have Xgb_1:=Lib.hid hbox;clear hg hbox hb) | ((with_reducible refine gate_store (t:=87) (p:=7) rfl ?_);refine store_box rfl rfl rfl (g:=gb) (j:=0) (cs := #[.int .i64 0, .int .i64 0, .int .i64 0, .bool false, .int .u32 0, .bool false, .int .i64 0, .slice none 0 0]) (cs':=⟨[.int .i64 b.f0, .int .i64 b.f1, .int .i64 b.f2, .bool b.f3.f0, .int .u32 b.f3.f1, .bool b.f3.f2, .int .i64 b.f3.f3, .slice A8 b.f3.f4.length c8]⟩) (seg := [.int .i64 b.f0, .int .i64 b.f1, .int .i64 b.f2, .bool b.f3.f0, .int .u32 b.f3.f1, .bool b.f3.f2, .int .i64 b.f3.f3, .slice A8 b.f3.f4.length c8]) rfl rfl Xgb_1.out rfl (by kernel_rfl) rfl rfl rfl ?_;intro w2 hx hT;have HB_2:=Lib.hid (hT.below HB_1.out HB_1.out.size (fun k hk => by rw [hk];exact LO_HB_gb.out));have X_2:=Lib.hid (hT.blk X_1.out NE_g1_gb.out);have M3_2:=Lib.hid (M3_1.out.tch hT (fun e => by have h1:=HM3.out.lt;have h2:=HEgb.out;omega));have M4_2:=Lib.hid (M4_1.out.tch hT (fun e => by have h1:=HM4.out.lt;have h2:=HEgb.out;omega));have Xgb_2:=Lib.hid hx;clear hx hT))
   clear k0 k1 k2 k3 k4 k5 k6 k7
   have y0 : w2.cell? ⟨gb,0,none⟩ = some (.int .i64 b.f0):=blk_cell Xgb_2.out 0
   have y1 : w2.cell? ⟨gb,1,none⟩ = some (.int .i64 b.f1):=blk_cell Xgb_2.out 1
   have y2 : w2.cell? ⟨gb,2,none⟩ = some (.int .i64 b.f2):=blk_cell Xgb_2.out 2
   have y3 : w2.cell? ⟨gb,3,none⟩ = some (.bool b.f3.f0):=blk_cell Xgb_2.out 3
   have y4 : w2.cell? ⟨gb,4,none⟩ = some (.int .u32 b.f3.f1):=blk_cell Xgb_2.out 4
   have y5 : w2.cell? ⟨gb,5,none⟩ = some (.bool b.f3.f2):=blk_cell Xgb_2.out 5
   have y6 : w2.cell? ⟨gb,6,none⟩ = some (.int .i64 b.f3.f3):=blk_cell Xgb_2.out 6
   have y7 : w2.cell? ⟨gb,7,none⟩ = some (.slice A8 b.f3.f4.length c8):=blk_cell Xgb_2.out 7
   have n9 : w2.cell? ⟨g1,9,none⟩ = some (.int .i64 h.stamp):=blk_cell X_2.out 9
   by_cases hz : b.f0 = 0
   ·have e0 : (b.f0 == 0) = true:=beq_iff_eq.2 hz
    have HZ:=Lib.hid hz
    clear hz
    by_cases q1 : b.f1 = 0
    rotate_left
    ·have e1 : (b.f1 != 0) = true:=bne_iff_ne.2 q1
     have Q1:=Lib.hid q1
     clear q1
     go_wp2_with (fail)
     go_ret
     exact ⟨by rw [isF HO.out (fun G => (by have h1:=(G.one i HLT.out).1;rw [← HBX.out] at h1;exact Q1.out (h1 HZ.out).1))];rfl,HB_2.out⟩
    have e1 : (b.f1 != 0) = false:=by rw [q1];rfl
    have Q1:=Lib.hid q1
    clear q1
    by_cases q2 : b.f2 = 0
    rotate_left
    ·have e2 : (b.f2 != 0) = true:=bne_iff_ne.2 q2
     have Q2:=Lib.hid q2
     clear q2
     go_wp2_with (fail)
     go_ret
     exact ⟨by rw [isF HO.out (fun G => (by have h1:=(G.one i HLT.out).1;rw [← HBX.out] at h1;exact Q2.out (h1 HZ.out).2.1))];rfl,HB_2.out⟩
    have e2 : (b.f2 != 0) = false:=by rw [q2];rfl
    have Q2:=Lib.hid q2
    clear q2
    cases q3 : zeroB b.f3 with
    | false =>
     have Q3:=Lib.hid q3
     clear q3
     go_wp2_with (first | (go_at_call 143;refine (zeroFrame_at b.f3 A8 c8 w2 false Q3.out).mono ?_;rintro e w3 ⟨rfl,hb⟩;have HB_3:=Lib.hid (below_then HB_2.out HB_2.out.size hb);have X_3:=Lib.hid (blk_below X_2.out hb);have M3_3:=Lib.hid (M3_2.out.below hb);have M4_3:=Lib.hid (M4_2.out.below hb);have Xgb_3:=Lib.hid (blk_below Xgb_2.out hb);clear hb))
     go_ret
     exact ⟨by rw [isF HO.out (fun G => (by have h1:=(G.one i HLT.out).1;rw [← HBX.out] at h1;exact by have h2:=(h1 HZ.out).2.2;rw [Q3.out] at h2;cases h2))];rfl,HB_3.out⟩
    | true =>
     have Q3:=Lib.hid q3
     clear q3
     go_wp2_with (first | (go_at_call 143;refine (zeroFrame_at b.f3 A8 c8 w2 true Q3.out).mono ?_;rintro e w3 ⟨rfl,hb⟩;have HB_3:=Lib.hid (below_then HB_2.out HB_2.out.size hb);have X_3:=Lib.hid (blk_below X_2.out hb);have M3_3:=Lib.hid (M3_2.out.below hb);have M4_3:=Lib.hid (M4_2.out.below hb);have Xgb_3:=Lib.hid (blk_below Xgb_2.out hb);clear hb))
     go_roundw
     case rel =>
      have hz : (bxAt h.bs i).f0 = 0:=by rw [← HBX.out];exact HZ.out
      have hkk : ∀ g,keyUp g h.bs (i + 1) = keyUp g h.bs i:=fun g => by rw [keyUp,if_pos hz]
      exact ⟨i + 1,HLT.out,by rw [HN.out];rfl,by rw [busyN,if_pos hz],⟨fun j hj => by by_cases e : j = i;subst e;exact (by rw [← HBX.out];exact ⟨fun _ => ⟨Q1.out,Q2.out,Q3.out⟩,fun h => absurd HZ.out h⟩);exact HONE.out j (by omega)⟩,⟨by rw [hkk];exact M3_3.out⟩,⟨by rw [hkk];exact M4_3.out⟩,⟨by rw [hkk,hkk];exact HEQ.out⟩,⟨X_3.out⟩,⟨HB_3.out⟩⟩
     case measure => rw [HN.out];have:=HLT.out;simp [intOf];omega
   ·have e0 : (b.f0 == 0) = false:=beq_eq_false_iff_ne.2 hz
    have HZ:=Lib.hid hz
    clear hz
    by_cases r0 : b.f0 < 0
    ·have s0 : decide (b.f0 < 0) = true:=decide_eq_true r0
     have R0:=Lib.hid r0
     clear r0
     go_wp2_with (fail)
     go_ret
     exact ⟨by rw [isF HO.out (fun G => (by have h1:=(G.one i HLT.out).2;rw [← HBX.out] at h1;have h2:=h1 HZ.out;exact by have:=R0.out;omega))];rfl,HB_2.out⟩
    have s0 : decide (b.f0 < 0) = false:=decide_eq_false r0
    have R0:=Lib.hid r0
    clear r0
    by_cases r1 : b.f0 > 3
    ·have s1 : decide (b.f0 > 3) = true:=decide_eq_true r1
     have R1:=Lib.hid r1
     clear r1
     go_wp2_with (fail)
     go_ret
     exact ⟨by rw [isF HO.out (fun G => (by have h1:=(G.one i HLT.out).2;rw [← HBX.out] at h1;have h2:=h1 HZ.out;exact by have:=R1.out;omega))];rfl,HB_2.out⟩
    have s1 : decide (b.f0 > 3) = false:=decide_eq_false r1
    have R1:=Lib.hid r1
    clear r1
    by_cases r2 : b.f1 < 0
    ·have s2 : decide (b.f1 < 0) = true:=decide_eq_true r2
     have R2:=Lib.hid r2
     clear r2
     go_wp2_with (fail)
     go_ret
     exact ⟨by rw [isF HO.out (fun G => (by have h1:=(G.one i HLT.out).2;rw [← HBX.out] at h1;have h2:=h1 HZ.out;exact by have:=R2.out;omega))];rfl,HB_2.out⟩
    have s2 : decide (b.f1 < 0) = false:=decide_eq_false r2
    have R2:=Lib.hid r2
    clear r2
    by_cases r3 : b.f1 > 9999
    ·have s3 : decide (b.f1 > 9999) = true:=decide_eq_true r3
     have R3:=Lib.hid r3
     clear r3
     go_wp2_with (fail)
     go_ret
     exact ⟨by rw [isF HO.out (fun G => (by have h1:=(G.one i HLT.out).2;rw [← HBX.out] at h1;have h2:=h1 HZ.out;exact by have:=R3.out;omega))];rfl,HB_2.out⟩
    have s3 : decide (b.f1 > 9999) = false:=decide_eq_false r3
    have R3:=Lib.hid r3
    clear r3
    by_cases r4 : b.f2 < 0
    ·have s4 : decide (b.f2 < 0) = true:=decide_eq_true r4
     have R4:=Lib.hid r4
     clear r4
     go_wp2_with (fail)
     go_ret
     exact ⟨by rw [isF HO.out (fun G => (by have h1:=(G.one i HLT.out).2;rw [← HBX.out] at h1;have h2:=h1 HZ.out;exact by have:=R4.out;omega))];rfl,HB_2.out⟩
    have s4 : decide (b.f2 < 0) = false:=decide_eq_false r4
    have R4:=Lib.hid r4
    clear r4
    by_cases r5 : b.f2 ≥ h.stamp
    ·have s5 : decide (b.f2 ≥ h.stamp) = true:=decide_eq_true r5
     have R5:=Lib.hid r5
     clear r5
     go_wp2_with (fail)
     go_ret
     exact ⟨by rw [isF HO.out (fun G => (by have h1:=(G.one i HLT.out).2;rw [← HBX.out] at h1;have h2:=h1 HZ.out;exact by have:=R5.out;omega))];rfl,HB_2.out⟩
    have s5 : decide (b.f2 ≥ h.stamp) = false:=decide_eq_false r5
    have R5:=Lib.hid r5
    clear r5
    cases q3 : valF b.f3 with
    | false =>
     have Q3:=Lib.hid q3
     clear q3
     go_wp2_with (first | (go_at_call 119;refine (validFrame_at b.f3 A8 c8 w2 false Q3.out HD8.out).mono ?_;rintro e w3 ⟨rfl,hb⟩;have HB_3:=Lib.hid (below_then HB_2.out HB_2.out.size hb);have X_3:=Lib.hid (blk_below X_2.out hb);have M3_3:=Lib.hid (M3_2.out.below hb);have M4_3:=Lib.hid (M4_2.out.below hb);have Xgb_3:=Lib.hid (blk_below Xgb_2.out hb);clear hb))
     go_ret
     exact ⟨by rw [isF HO.out (fun G => (by have h1:=(G.one i HLT.out).2;rw [← HBX.out] at h1;have h2:=h1 HZ.out;exact by have h3:=h2.2.2.2.2.2.2;rw [Q3.out] at h3;cases h3))];rfl,HB_3.out⟩
    | true =>
     have Q3:=Lib.hid q3
     clear q3
     go_upto_region 11 with (first | (go_at_call 119;refine (validFrame_at b.f3 A8 c8 w2 true Q3.out HD8.out).mono ?_;rintro e w3 ⟨rfl,hb⟩;have HB_3:=Lib.hid (below_then HB_2.out HB_2.out.size hb);have X_3:=Lib.hid (blk_below X_2.out hb);have M3_3:=Lib.hid (M3_2.out.below hb);have M4_3:=Lib.hid (M4_2.out.below hb);have Xgb_3:=Lib.hid (blk_below Xgb_2.out hb);clear hb))
     clear y0 y1 y2 y3 y4 y5 y6 y7 n9
     obtain ⟨wd,hwd⟩ : ∃ wd,wd = w3.drew:=⟨_,rfl⟩
     have M3d : Hid (MapAt wd m3 (keyUp (·.f1) h.bs i).1 (keyUp (·.f1) h.bs i).2):=by rw [hwd];exact Lib.hid (M3_3.out.below (below_drew (Below.refl _ _)))
     have M4d : Hid (MapAt wd m4 (keyUp (·.f2) h.bs i).1 (keyUp (·.f2) h.bs i).2):=by rw [hwd];exact Lib.hid (M4_3.out.below (below_drew (Below.refl _ _)))
     have Xbd : Hid (wd.heap[gb]? = some (.cells ⟨[.int .i64 b.f0, .int .i64 b.f1, .int .i64 b.f2, .bool b.f3.f0, .int .u32 b.f3.f1, .bool b.f3.f2, .int .i64 b.f3.f3, .slice A8 b.f3.f4.length c8]⟩ 87 (0,0))):=by rw [hwd];exact Lib.hid (blk_drew Xgb_3.out)
     have Xd : Hid (wd.heap[g1]? = some (.cells ⟨hostC h (.slice Af h.fs.length cf) (.slice (some ad) h.bs.length cb) (.slice Aq h.fr.length cq) (.slice Ae h.ev.length ce)⟩ 32 (0,0))):=by rw [hwd];exact Lib.hid (blk_drew X_3.out)
     have HBd : Hid (Below w.heap.size w wd):=by rw [hwd];exact Lib.hid (below_drew HB_3.out)
     have NB3 : Hid (gb ≠ m3):=Lib.hid (fun e => by obtain ⟨_,_,h1,_⟩:=M3d.out;rw [← e,Xbd.out] at h1;cases h1)
     have NB4 : Hid (gb ≠ m4):=Lib.hid (fun e => by obtain ⟨_,_,h1,_⟩:=M4d.out;rw [← e,Xbd.out] at h1;cases h1)
     obtain ⟨wu,hup,hmu,hTu⟩:=update_run (P:=Try.prog) Try.underlying122 Try.underlying3 M3d.out b.f1 (i : Int)
     have M3u:=Lib.hid hmu
     have M4u:=Lib.hid (M4d.out.tch hTu (fun e => NE_m3_m4.out e.symm))
     have Xbu:=Lib.hid (hTu.blk Xbd.out NB3.out)
     have Xu:=Lib.hid (hTu.blk Xd.out NE_g1_m3.out)
     have HBu:=Lib.hid (hTu.below HBd.out HBd.out.size (fun k hk => by rw [hk];exact LMm3.out))
     clear hmu hTu
     obtain ⟨wv,hup2,hmu,hTu⟩:=update_run (P:=Try.prog) Try.underlying122 Try.underlying3 M4u.out b.f2 (i : Int)
     have M4v:=Lib.hid hmu
     have M3v:=Lib.hid (M3u.out.tch hTu NE_m3_m4.out)
     have Xbv:=Lib.hid (hTu.blk Xbu.out NB4.out)
     have Xv:=Lib.hid (hTu.blk Xu.out NE_g1_m4.out)
     have HBv:=Lib.hid (hTu.below HBu.out HBu.out.size (fun k hk => by rw [hk];exact LMm4.out))
     clear hmu hTu
     refine start_ (n:=10) (S:=fun w' : World => w'.heap[gb]? = some (.cells ⟨[.int .i64 b.f0, .int .i64 b.f1, .int .i64 b.f2, .bool b.f3.f0, .int .u32 b.f3.f1, .bool b.f3.f2, .int .i64 b.f3.f3, .slice A8 b.f3.f4.length c8]⟩ 87 (0,0))) (ds := [9]) #[false,false,false,false,false,false,false,false,false,false] (by kernel_rfl) rfl rfl (hwd ▸ Xbd.out) (fun hHeld => ?_)
     rw [← hwd] at hHeld ⊢
     clear hwd
     refine pure_ (i:=0) (N:=some 74) (v := ?_) (a' := ?_) #[true,false,false,false,false,false,false,false,false,false] rfl rfl (by kernel_rfl) (fun _ _ _ h => h) (Or.inl ⟨by rfl, ?_⟩) ?_ ?_
     rotate_left
     ·intro w'
      go_simp
      with_reducible rfl
     rotate_left
     ·simp only [Act.put,List.setIfInBounds_toArray,List.set_cons_zero,List.set_cons_succ,i64_w,i32_w]
      rfl
     refine pure_ (i:=1) (N:=some 75) (v := ?_) (a' := ?_) #[true,true,false,false,false,false,false,false,false,false] rfl rfl (by kernel_rfl) (fun _ _ _ h => h) (Or.inl ⟨by rfl, ?_⟩) ?_ ?_
     rotate_left
     ·intro w'
      go_simp
      with_reducible rfl
     rotate_left
     ·simp only [Act.put,List.setIfInBounds_toArray,List.set_cons_zero,List.set_cons_succ,i64_w,i32_w]
      rfl
     refine take_ (i:=2) (N:=some 76) (v := ?_) (a' := ?_) #[true,true,true,false,false,false,false,false,false,false] rfl rfl (by kernel_rfl) (fun _ _ _ h => h) (Or.inl ⟨by rfl, ?_⟩) hHeld ?_ ?_
     rotate_left
     ·intro w' s0
      have e0 : w'.cell? ⟨gb,1,none⟩ = some (.int .i64 b.f1):=blk_cell s0 1
      go_simp
      with_reducible rfl
     rotate_left
     ·simp only [Act.put,List.setIfInBounds_toArray,List.set_cons_zero,List.set_cons_succ,i64_w,i32_w]
      rfl
     refine pure_ (i:=3) (N:=some 77) (v := ?_) (a' := ?_) #[true,true,true,true,false,false,false,false,false,false] rfl rfl (by kernel_rfl) (fun _ _ _ h => h) (Or.inl ⟨by rfl, ?_⟩) ?_ ?_
     rotate_left
     ·intro w'
      go_simp
      with_reducible rfl
     rotate_left
     ·simp only [Act.put,List.setIfInBounds_toArray,List.set_cons_zero,List.set_cons_succ,i64_w,i32_w]
      rfl
     refine pure_ (i:=4) (N:=some 78) (v := ?_) (a' := ?_) #[true,true,true,true,true,false,false,false,false,false] rfl rfl (by kernel_rfl) (fun _ _ _ h => h) (Or.inl ⟨by rfl, ?_⟩) ?_ ?_
     rotate_left
     ·intro w'
      go_simp
      with_reducible rfl
     rotate_left
     ·simp only [Act.put,List.setIfInBounds_toArray,List.set_cons_zero,List.set_cons_succ,i64_w,i32_w]
      rfl
     refine take_ (i:=5) (N:=some 79) (v := ?_) (a' := ?_) #[true,true,true,true,true,true,false,false,false,false] rfl rfl (by kernel_rfl) (fun _ _ _ h => h) (Or.inl ⟨by rfl, ?_⟩) hHeld ?_ ?_
     rotate_left
     ·intro w' s0
      have e0 : w'.cell? ⟨gb,2,none⟩ = some (.int .i64 b.f2):=blk_cell s0 2
      go_simp
      with_reducible rfl
     rotate_left
     ·simp only [Act.put,List.setIfInBounds_toArray,List.set_cons_zero,List.set_cons_succ,i64_w,i32_w]
      rfl
     refine pure_ (i:=6) (N:=some 80) (v := ?_) (a' := ?_) #[true,true,true,true,true,true,true,false,false,false] rfl rfl (by kernel_rfl) (fun _ _ _ h => h) (Or.inl ⟨by rfl, ?_⟩) ?_ ?_
     rotate_left
     ·intro w'
      go_simp
      with_reducible rfl
     rotate_left
     ·simp only [Act.put,List.setIfInBounds_toArray,List.set_cons_zero,List.set_cons_succ,i64_w,i32_w]
      rfl
     refine pure_ (i:=7) (N:=some 81) (v := ?_) (a' := ?_) #[true,true,true,true,true,true,true,true,false,false] rfl rfl (by kernel_rfl) (fun _ _ _ h => h) (Or.inl ⟨by rfl, ?_⟩) ?_ ?_
     rotate_left
     ·intro w'
      go_simp
      with_reducible rfl
     rotate_left
     ·simp only [Act.put,List.setIfInBounds_toArray,List.set_cons_zero,List.set_cons_succ,i64_w,i32_w]
      rfl
     refine one_ (i:=8) (N:=none) #[true,true,true,true,true,true,true,true,true,false] rfl rfl (by kernel_rfl) (by decide) (fun K hK => ?_)
     refine skip_ (w1:=wu) (by rfl) rfl ?_ ?_
     ·go_simp
     refine hK.out _ _ Xbu.out (fun hHeld => ?_)
     clear hK K
     refine last_ (i:=9) (N:=none) #[true,true,true,true,true,true,true,true,true,true] rfl rfl (by kernel_rfl) (by decide) (fun K hK => ?_)
     refine skip_ (w1:=wv) (by rfl) rfl ?_ ?_
     ·go_simp
     refine hK.out _ _ ?_
     clear hK K
     refine done_ (by kernel_rfl) ?_
     clear hup hup2
     have hk1 : keyUp (·.f1) h.bs (i + 1) = (fun x => if x = b.f1 then some (i : Int) else (keyUp (·.f1) h.bs i).1 x,if ((keyUp (·.f1) h.bs i).1 b.f1).isSome then (keyUp (·.f1) h.bs i).2 else (keyUp (·.f1) h.bs i).2 + 1):=by rw [keyUp, ← HBX.out,if_neg HZ.out]
     have hk2 : keyUp (·.f2) h.bs (i + 1) = (fun x => if x = b.f2 then some (i : Int) else (keyUp (·.f2) h.bs i).1 x,if ((keyUp (·.f2) h.bs i).1 b.f2).isSome then (keyUp (·.f2) h.bs i).2 else (keyUp (·.f2) h.bs i).2 + 1):=by rw [keyUp, ← HBX.out,if_neg HZ.out]
     have N3 : Hid (MapAt wv m3 (keyUp (·.f1) h.bs (i + 1)).1 (keyUp (·.f1) h.bs (i + 1)).2):=Lib.hid (by rw [hk1];exact M3v.out)
     have N4 : Hid (MapAt wv m4 (keyUp (·.f2) h.bs (i + 1)).1 (keyUp (·.f2) h.bs (i + 1)).2):=Lib.hid (by rw [hk2];exact M4v.out)
     clear hk1 hk2 M3v M4v M3u M4u
     obtain ⟨n1,hn1⟩ : ∃ n,n = (keyUp (·.f1) h.bs (i + 1)).2:=⟨_,rfl⟩
     obtain ⟨n2,hn2⟩ : ∃ n,n = (keyUp (·.f2) h.bs (i + 1)).2:=⟨_,rfl⟩
     have HN1:=Lib.hid hn1
     have HN2:=Lib.hid hn2
     have z3 : ∀ ty,Sem.run Try.prog (Builtin.len_ #[122] ty #[.map (some m3)]) wv = .ok (.int .i64 n1) wv:=fun ty => by rw [hn1];exact len_run Try.underlying122 N3.out ty
     have z4 : ∀ ty,Sem.run Try.prog (Builtin.len_ #[122] ty #[.map (some m4)]) wv = .ok (.int .i64 n2) wv:=fun ty => by rw [hn2];exact len_run Try.underlying122 N4.out ty
     clear hn1 hn2
     have y0 : wv.cell? ⟨gb,0,none⟩ = some (.int .i64 b.f0):=blk_cell Xbv.out 0
     by_cases q : n1 = n2
     rotate_left
     ·have q' : ((n1 : Int) != (n2 : Int)) = true:=bne_iff_ne.2 (by omega)
      have QN:=Lib.hid q
      clear q
      go_wp2_with (fail)
      go_ret
      exact ⟨by rw [isF HO.out (fun G => QN.out (by rw [HN1.out,HN2.out,keyUp_all.2 (G.tag.less HLT.out),keyUp_all.2 (G.stamp.less HLT.out)]))];rfl,HBv.out⟩
     subst q
     have q' : ((n1 : Int) != (n1 : Int)) = false:=bne_self_eq_false _
     have HONE1 : Hid (∀ j,j < i + 1 → boxOk h.stamp (bxAt h.bs j)):=Lib.hid (fun j hj => by by_cases e : j = i;subst e;exact (by rw [← HBX.out];exact ⟨fun h => absurd h HZ.out,fun _ => ⟨by have:=R0.out;omega,by have:=R1.out;omega,by have:=R2.out;omega,by have:=R3.out;omega,by have:=R4.out;omega,by have:=R5.out;omega,Q3.out⟩⟩);exact HONE.out j (by omega))
     by_cases q1 : b.f0 = 1
     ·have e1 : (b.f0 != 1) = false:=by rw [q1];rfl
      have Q1:=Lib.hid q1
      clear q1
      go_wp2_with (fail)
      go_roundw
      case rel => exact ⟨i + 1,HLT.out,by rw [HN.out];rfl,by rw [busyN, ← HBX.out,if_neg HZ.out,if_pos Q1.out],⟨HONE1.out⟩,⟨N3.out⟩,⟨N4.out⟩,⟨by rw [← HN1.out, ← HN2.out]⟩,⟨Xv.out⟩,⟨HBv.out⟩⟩
      case measure => rw [HN.out];have:=HLT.out;simp [intOf];omega
     ·have e1 : (b.f0 != 1) = true:=bne_iff_ne.2 q1
      have Q1:=Lib.hid q1
      clear q1
      have hw : wrap64 ((busyN h.bs i : Int) + 1) = ((busyN h.bs i + 1 : Nat) : Int):=by have h1:=busyN_le h.bs i;have h2:=SM.out.l2;have h3:=HLT.out;unfold wrap64;omega
      go_wp2_with (fail)
      go_roundw
      case rel => exact ⟨i + 1,HLT.out,by rw [HN.out];rfl,by rw [busyN, ← HBX.out,if_neg HZ.out,if_neg Q1.out];first | rw [hw] | rfl,⟨HONE1.out⟩,⟨N3.out⟩,⟨N4.out⟩,⟨by rw [← HN1.out, ← HN2.out]⟩,⟨Xv.out⟩,⟨HBv.out⟩⟩
      case measure => rw [HN.out];have:=HLT.out;simp [intOf];omega
  ·have hii : i = h.bs.length:=by omega
   subst hii
   have b2 : decide ((h.bs.length : Int) < (h.bs.length : Int)) = false:=decide_eq_false (by omega)
   have y5 : wr.cell? ⟨g1,5,none⟩ = some (.slice Ab h.bs.length cb):=blk_cell HX.out 5
   go_wp2_with (fail)
   clear y5 b2
   go_loopw [96,8] (fun v96 v8 wr => ∃ i : Nat,i ≤ h.bs.length ∧ v96 = .int .i64 i ∧ v8 = .int .i64 (liveN h.bs i) ∧ Aside0 (MapAt wr m3 (keyUp (·.f1) h.bs h.bs.length).1 (keyUp (·.f1) h.bs h.bs.length).2) ∧ Aside0 (wr.heap[g1]? = some (.cells ⟨hostC h (.slice Af h.fs.length cf) (.slice Ab h.bs.length cb) (.slice Aq h.fr.length cq) (.slice Ae h.ev.length ce)⟩ 32 (0,0))) ∧ Aside0 (Below w.heap.size w wr)) (fun v96 _ _ => h.bs.length - (intOf v96).toNat)
   case atStart => exact ⟨0,Nat.zero_le _,rfl,rfl,⟨HM3.out⟩,⟨HX.out⟩,⟨HB.out⟩⟩
   case round =>
    clear HM3 HM4 HX HB hi
    obtain ⟨i,hi,rfl,rfl,HM3,HX,HB⟩:=hrel
    by_cases hlt : i < h.bs.length
    ·have b2 : decide ((i : Int) < (h.bs.length : Int)) = true:=decide_eq_true (by omega)
     have p5 : (0 ≤ (i : Int)) = True:=eq_true (by omega)
     have q5 : ((i : Int) < (h.bs.length : Int)) = True:=eq_true (by omega)
     have qn : (i < h.bs.length) = True:=eq_true hlt
     have hn : wrap64 ((i : Int) + 1) = (i : Int) + 1:=by have:=SM.out.l2;unfold wrap64;omega
     have HLT:=Lib.hid hlt
     have HI:=Lib.hid hi
     have HN:=Lib.hid hn
     obtain ⟨ad,A8,c8,ea,k0,k1,k2,k3,k4,k5,k6,k7,l8,g8⟩:=at_T87 (Kd.C_below RB.out HB.out) (i : Int) (by omega) (by omega)
     subst ea
     clear hlt hi l8 g8
     rw [Int.toNat_natCast] at k0 k1 k2 k3 k4 k5 k6 k7
     obtain ⟨b,hb⟩ : ∃ b,b = rd_T87 h.bs (i : Int):=⟨_,rfl⟩
     rw [← hb] at k0 k1 k2 k3 k4 k5 k6 k7
     have HBE:=Lib.hid hb
     have HBX : Hid (b = bxAt h.bs i):=Lib.hid hb
     have HD8 : Hid (b.f3.f4.length ≤ 10000000):=Lib.hid (by rw [hb];exact SM.out.d2 _ (List.mem_of_getElem? (getD_at h.bs i z87 HLT.out)))
     clear hb
     go_upto_region 21 with (first | ((with_reducible refine gate_dst (N:=10) rfl ?_);refine box_event ?hg (N:=10) ?hd (cs := #[.int .i64 0, .int .i64 0, .int .i64 0, .bool false, .int .u32 0, .bool false, .int .i64 0, .slice none 0 0]) (t:=87) ?hr ?_;(case hd => rfl);(case hg => rfl);(case hr => first | (go_simp;done) | (go_simp;rfl));intro gb hg w1 hbox hb;have LO_HB_gb : Hid (w.heap.size ≤ gb):=Lib.hid (by rw [hg];exact HB.out.size);have NE_g1_gb : Hid (g1 ≠ gb):=Lib.hid (fun e => by have h1:=blk_lt HX.out;omega);have HEgb:=Lib.hid hg;have HB_1:=Lib.hid (below_then HB.out HB.out.size hb);have X_1:=Lib.hid (blk_below HX.out hb);have M3_1:=Lib.hid (HM3.out.below hb);have Xgb_1:=Lib.hid hbox;clear hg hbox hb) | ((with_reducible refine gate_store (t:=87) (p:=10) rfl ?_);refine store_box rfl rfl rfl (g:=gb) (j:=0) (cs := #[.int .i64 0, .int .i64 0, .int .i64 0, .bool false, .int .u32 0, .bool false, .int .i64 0, .slice none 0 0]) (cs':=⟨[.int .i64 b.f0, .int .i64 b.f1, .int .i64 b.f2, .bool b.f3.f0, .int .u32 b.f3.f1, .bool b.f3.f2, .int .i64 b.f3.f3, .slice A8 b.f3.f4.length c8]⟩) (seg := [.int .i64 b.f0, .int .i64 b.f1, .int .i64 b.f2, .bool b.f3.f0, .int .u32 b.f3.f1, .bool b.f3.f2, .int .i64 b.f3.f3, .slice A8 b.f3.f4.length c8]) rfl rfl Xgb_1.out rfl (by kernel_rfl) rfl rfl rfl ?_;intro w2 hx hT;have HB_2:=Lib.hid (hT.below HB_1.out HB_1.out.size (fun k hk => by rw [hk];exact LO_HB_gb.out));have X_2:=Lib.hid (hT.blk X_1.out NE_g1_gb.out);have M3_2:=Lib.hid (M3_1.out.tch hT (fun e => by have h1:=HM3.out.lt;have h2:=HEgb.out;omega));have Xgb_2:=Lib.hid hx;clear hx hT))
     clear k0 k1 k2 k3 k4 k5 k6 k7
     have y0 : w2.cell? ⟨gb,0,none⟩ = some (.int .i64 b.f0):=blk_cell Xgb_2.out 0
     by_cases q1 : b.f0 = 0
     ·have e1 : (b.f0 != 0) = false:=by rw [q1];rfl
      have Q1:=Lib.hid q1
      clear q1
      go_wp2_with (fail)
      go_roundw
      case rel => exact ⟨i + 1,HLT.out,by rw [HN.out];rfl,by rw [liveN,if_pos (show (bxAt h.bs i).f0 = 0 by rw [← HBX.out];exact Q1.out)],⟨M3_2.out⟩,⟨X_2.out⟩,⟨HB_2.out⟩⟩
      case measure => rw [HN.out];have:=HLT.out;simp [intOf];omega
     ·have e1 : (b.f0 != 0) = true:=bne_iff_ne.2 q1
      have Q1:=Lib.hid q1
      clear q1
      have hw : wrap64 ((liveN h.bs i : Int) + 1) = ((liveN h.bs i + 1 : Nat) : Int):=by have h1:=liveN_le h.bs i;have h2:=SM.out.l2;have h3:=HLT.out;unfold wrap64;omega
      go_wp2_with (fail)
      go_roundw
      case rel => exact ⟨i + 1,HLT.out,by rw [HN.out];rfl,by rw [liveN,if_neg (show ¬ (bxAt h.bs i).f0 = 0 by rw [← HBX.out];exact Q1.out)];first | rw [hw] | rfl,⟨M3_2.out⟩,⟨X_2.out⟩,⟨HB_2.out⟩⟩
      case measure => rw [HN.out];have:=HLT.out;simp [intOf];omega
    ·have hii : i = h.bs.length:=by omega
     subst hii
     have b2 : decide ((h.bs.length : Int) < (h.bs.length : Int)) = false:=decide_eq_false (by omega)
     obtain ⟨n1,hn1⟩ : ∃ n,n = (keyUp (·.f1) h.bs h.bs.length).2:=⟨_,rfl⟩
     have HN1:=Lib.hid hn1
     obtain ⟨nb,hnb⟩ : ∃ n,n = busyN h.bs h.bs.length:=⟨_,rfl⟩
     obtain ⟨nl,hnl⟩ : ∃ n,n = liveN h.bs h.bs.length:=⟨_,rfl⟩
     have z3 : ∀ ty,Sem.run Try.prog (Builtin.len_ #[122] ty #[.map (some m3)]) wr = .ok (.int .i64 n1) wr:=fun ty => by rw [hn1];exact len_run Try.underlying122 HM3.out ty
     rw [← hnb, ← hnl]
     have HNB:=Lib.hid hnb
     have HNL:=Lib.hid hnl
     clear hn1 hnb hnl hi
     by_cases q1 : nb ≤ 1
     rotate_left
     ·have s1 : decide ((nb : Int) ≤ 1) = false:=decide_eq_false (by omega)
      have Q1:=Lib.hid q1
      clear q1
      go_wp2_with (fail)
      go_ret
      exact ⟨by rw [isF HO.out (fun G => Q1.out (by rw [HNB.out];exact G.busy))];rfl,HB.out⟩
     have s1 : decide ((nb : Int) ≤ 1) = true:=decide_eq_true (by omega)
     have Q1:=Lib.hid q1
     clear q1
     by_cases q2 : n1 = nl
     rotate_left
     ·have s2 : ((n1 : Int) == (nl : Int)) = false:=beq_eq_false_iff_ne.2 (by omega)
      have Q2:=Lib.hid q2
      clear q2
      go_wp2_with (fail)
      go_ret
      exact ⟨by rw [isF HO.out (fun G => Q2.out (by rw [HN1.out,HNL.out,keyUp_all.2 G.tag]))];rfl,HB.out⟩
     subst q2
     have s2 : ((n1 : Int) == (n1 : Int)) = true:=beq_self_eq_true _
     go_wp2_with (fail)
     go_ret
     have G : GoodB h.stamp h.bs:=⟨HONE.out,keyUp_all.1 (by rw [← HN1.out,HNL.out]),keyUp_all.1 (by rw [← HEQ.out, ← HN1.out,HNL.out]),by rw [← HNB.out];exact Q1.out⟩
     exact ⟨by rw [HO.out.2 G];rfl,HB.out⟩
end Go.Proofs.Ytcaefabbcjlkdaa.P
namespace Go.Proofs.Ytcaefabbcjlkdaa.P
open Go.RowKit Go.Proofs.YtcaefabbcjlkdaaW.PrintWords Go.Proofs.YtcaefabbcjlkdaaW.PrintLast Go.Proofs.YtcaefabbcjlkdaaW.PrintMore
set_option linter.unusedVariables false
set_option linter.unusedSimpArgs false
def spec_l3zeroFrame.f (a0_0 : Bool) (a0_1 : Int) (a0_2 : Bool) (a0_3 : Int) (l0_4 : List Int) : Option (Bool):=if a0_0 = true then (some false) else (if a0_1 = 0 then (if a0_2 = true then (some false) else (if a0_3 = 0 then (some ((l0_4.length : Int) == 0)) else (some false))) else (some false))
set_option maxHeartbeats 8000000 in
set_option maxRecDepth 100000 in
theorem spec_l3zeroFrame.calls (a0_0 : Bool) (a0_1 : Int) (a0_2 : Bool) (a0_3 : Int) (A0_4 : Option Addr) (c0_4 : Nat) (l0_4 : List Int) (r : Bool) (w : World) (hr0_4 : Kd.C (Kd.int .u8) w A0_4 l0_4.length l0_4) (hc0_4 : l0_4.length ≤ c0_4) (h : spec_l3zeroFrame.f a0_0 a0_1 a0_2 a0_3 l0_4 = some r) :
  Calls Try.prog 127 #[.agg #[.bool a0_0, .int .u32 a0_1, .bool a0_2, .int .i64 a0_3, .slice A0_4 l0_4.length c0_4]] w fun e w' => e = .returned (.bool r) ∧ Below w.heap.size w w':=by
 have hu45:=Try.underlying45
 have HR0_4:=Aside0.mk hr0_4
 have HC0_4:=Aside0.mk hc0_4
 clear hr0_4 hc0_4
 have HB:=Aside0.mk (Below.refl w.heap.size w)
 have H : (if a0_0 = true then (some false) else (if a0_1 = 0 then (if a0_2 = true then (some false) else (if a0_3 = 0 then (some ((l0_4.length : Int) == 0)) else (some false))) else (some false))) = some r:=h
 clear h
 by_cases c2 : a0_0 = true
 ·subst c2
  have H1 : (some false) = some r:=by rw [if_pos rfl] at H;exact H
  clear H
  have H:=H1
  clear H1
  obtain rfl:=Option.some.inj H
  go_enter Try.func127,Try.ntmps127
  go_wp2_with (first | ((with_reducible refine gate_dst (N:=1) rfl ?_);(try (refine gate_guard (by rfl) ?_;dsimp only));refine box_event ?hg (N:=1) ?hd (cs := #[.bool true, .int .u32 a0_1, .bool a0_2, .int .i64 a0_3, .slice A0_4 l0_4.length c0_4]) (t:=45) ?hr ?_;(case hd => rfl);(case hg => rfl);(case hr => first | (go_simp;done) | (go_simp;rfl));intro gb395 hg w3 hbox hb;have n0_:=Aside0.mk (below_step (by repeat (first | (with_reducible first | exact HB.out | apply below_alloc | apply pw_below_drewN | apply below_drew1) | exact HB.out)) hb);have n1_:=Aside0.mk (hbox);have n2_:=Aside0.mk ((by rw [hg];exact (below_size (by repeat (first | (with_reducible first | exact HB.out | apply below_alloc | apply pw_below_drewN | apply below_drew1) | exact HB.out))) : w.heap.size ≤ gb395));have n3_:=Aside0.mk ((by rw [hg];exact (below_size (by repeat (first | (with_reducible first | exact HB.out | apply below_alloc | apply pw_below_drewN | apply below_drew1) | exact HB.out))) : w.heap.size ≤ gb395));clear HB;have HB:=n0_;have BK395:=n1_;have GW395:=n2_;have GE395:=n3_;clear n0_ n1_ n2_ n3_;clear hb hbox hg;obtain ⟨hcz4_0,hcz4_1,hcz4_2,hcz4_3,hcz4_4⟩:=bc5 BK395.out;obtain ⟨hfz4_0,hfz4_1,hfz4_2,hfz4_3,hfz4_4⟩:=bf5 BK395.out))
  go_ret
  exact ⟨by first | rfl | (simp [errW_none,errW_some] <;> rfl) | (simp [*,errW_none,errW_some] <;> rfl),by repeat (first | (with_reducible first | exact HB.out | apply below_alloc | apply pw_below_drewN | apply below_drew1 | refine below_set ?_ GE395.out) | exact HB.out)⟩
 ·replace c2:=Bool.eq_false_iff.mpr c2
  subst c2
  have H1 : (if a0_1 = 0 then (if a0_2 = true then (some false) else (if a0_3 = 0 then (some ((l0_4.length : Int) == 0)) else (some false))) else (some false)) = some r:=by rw [if_neg (show ¬ (false = true) by decide)] at H;exact H
  clear H
  have H:=H1
  clear H1
  by_cases c5 : a0_1 = 0
  ·rw [if_pos c5] at H
   have c5b0 : (a0_1 == 0) = true:=beq_iff_eq.mpr c5
   have c5b1 : (a0_1 != 0) = false:=bne_eq_false_iff_eq.mpr c5
   clear c5
   by_cases c6 : a0_2 = true
   ·subst c6
    have H1 : (some false) = some r:=by rw [if_pos rfl] at H;exact H
    clear H
    have H:=H1
    clear H1
    obtain rfl:=Option.some.inj H
    go_enter Try.func127,Try.ntmps127
    go_wp2_with (first | ((with_reducible refine gate_dst (N:=1) rfl ?_);(try (refine gate_guard (by rfl) ?_;dsimp only));refine box_event ?hg (N:=1) ?hd (cs := #[.bool false, .int .u32 a0_1, .bool true, .int .i64 a0_3, .slice A0_4 l0_4.length c0_4]) (t:=45) ?hr ?_;(case hd => rfl);(case hg => rfl);(case hr => first | (go_simp;done) | (go_simp;rfl));intro gb395 hg w7 hbox hb;have n0_:=Aside0.mk (below_step (by repeat (first | (with_reducible first | exact HB.out | apply below_alloc | apply pw_below_drewN | apply below_drew1) | exact HB.out)) hb);have n1_:=Aside0.mk (hbox);have n2_:=Aside0.mk ((by rw [hg];exact (below_size (by repeat (first | (with_reducible first | exact HB.out | apply below_alloc | apply pw_below_drewN | apply below_drew1) | exact HB.out))) : w.heap.size ≤ gb395));have n3_:=Aside0.mk ((by rw [hg];exact (below_size (by repeat (first | (with_reducible first | exact HB.out | apply below_alloc | apply pw_below_drewN | apply below_drew1) | exact HB.out))) : w.heap.size ≤ gb395));clear HB;have HB:=n0_;have BK395:=n1_;have GW395:=n2_;have GE395:=n3_;clear n0_ n1_ n2_ n3_;clear hb hbox hg;obtain ⟨hcz8_0,hcz8_1,hcz8_2,hcz8_3,hcz8_4⟩:=bc5 BK395.out;obtain ⟨hfz8_0,hfz8_1,hfz8_2,hfz8_3,hfz8_4⟩:=bf5 BK395.out))
    go_ret
    exact ⟨by first | rfl | (simp [errW_none,errW_some] <;> rfl) | (simp [*,errW_none,errW_some] <;> rfl),by repeat (first | (with_reducible first | exact HB.out | apply below_alloc | apply pw_below_drewN | apply below_drew1 | refine below_set ?_ GE395.out) | exact HB.out)⟩
   ·replace c6:=Bool.eq_false_iff.mpr c6
    subst c6
    have H1 : (if a0_3 = 0 then (some ((l0_4.length : Int) == 0)) else (some false)) = some r:=by rw [if_neg (show ¬ (false = true) by decide)] at H;exact H
    clear H
    have H:=H1
    clear H1
    by_cases c9 : a0_3 = 0
    ·rw [if_pos c9] at H
     have c9b0 : (a0_3 == 0) = true:=beq_iff_eq.mpr c9
     have c9b1 : (a0_3 != 0) = false:=bne_eq_false_iff_eq.mpr c9
     clear c9
     obtain rfl:=Option.some.inj H
     go_enter Try.func127,Try.ntmps127
     go_wp2_with (first | ((with_reducible refine gate_dst (N:=1) rfl ?_);(try (refine gate_guard (by rfl) ?_;dsimp only));refine box_event ?hg (N:=1) ?hd (cs := #[.bool false, .int .u32 a0_1, .bool false, .int .i64 a0_3, .slice A0_4 l0_4.length c0_4]) (t:=45) ?hr ?_;(case hd => rfl);(case hg => rfl);(case hr => first | (go_simp;done) | (go_simp;rfl));intro gb395 hg w10 hbox hb;have n0_:=Aside0.mk (below_step (by repeat (first | (with_reducible first | exact HB.out | apply below_alloc | apply pw_below_drewN | apply below_drew1) | exact HB.out)) hb);have n1_:=Aside0.mk (hbox);have n2_:=Aside0.mk ((by rw [hg];exact (below_size (by repeat (first | (with_reducible first | exact HB.out | apply below_alloc | apply pw_below_drewN | apply below_drew1) | exact HB.out))) : w.heap.size ≤ gb395));have n3_:=Aside0.mk ((by rw [hg];exact (below_size (by repeat (first | (with_reducible first | exact HB.out | apply below_alloc | apply pw_below_drewN | apply below_drew1) | exact HB.out))) : w.heap.size ≤ gb395));clear HB;have HB:=n0_;have BK395:=n1_;have GW395:=n2_;have GE395:=n3_;clear n0_ n1_ n2_ n3_;clear hb hbox hg;obtain ⟨hcz11_0,hcz11_1,hcz11_2,hcz11_3,hcz11_4⟩:=bc5 BK395.out;obtain ⟨hfz11_0,hfz11_1,hfz11_2,hfz11_3,hfz11_4⟩:=bf5 BK395.out))
     go_ret
     exact ⟨by first | rfl | (simp [errW_none,errW_some] <;> rfl) | (simp [*,errW_none,errW_some] <;> rfl),by repeat (first | (with_reducible first | exact HB.out | apply below_alloc | apply pw_below_drewN | apply below_drew1 | refine below_set ?_ GE395.out) | exact HB.out)⟩
    ·rw [if_neg c9] at H
     have c9b0 : (a0_3 == 0) = false:=beq_eq_false_iff_ne.mpr c9
     have c9b1 : (a0_3 != 0) = true:=bne_iff_ne.mpr c9
     obtain rfl:=Option.some.inj H
     go_enter Try.func127,Try.ntmps127
     go_wp2_with (first | ((with_reducible refine gate_dst (N:=1) rfl ?_);(try (refine gate_guard (by rfl) ?_;dsimp only));refine box_event ?hg (N:=1) ?hd (cs := #[.bool false, .int .u32 a0_1, .bool false, .int .i64 a0_3, .slice A0_4 l0_4.length c0_4]) (t:=45) ?hr ?_;(case hd => rfl);(case hg => rfl);(case hr => first | (go_simp;done) | (go_simp;rfl));intro gb395 hg w12 hbox hb;have n0_:=Aside0.mk (below_step (by repeat (first | (with_reducible first | exact HB.out | apply below_alloc | apply pw_below_drewN | apply below_drew1) | exact HB.out)) hb);have n1_:=Aside0.mk (hbox);have n2_:=Aside0.mk ((by rw [hg];exact (below_size (by repeat (first | (with_reducible first | exact HB.out | apply below_alloc | apply pw_below_drewN | apply below_drew1) | exact HB.out))) : w.heap.size ≤ gb395));have n3_:=Aside0.mk ((by rw [hg];exact (below_size (by repeat (first | (with_reducible first | exact HB.out | apply below_alloc | apply pw_below_drewN | apply below_drew1) | exact HB.out))) : w.heap.size ≤ gb395));clear HB;have HB:=n0_;have BK395:=n1_;have GW395:=n2_;have GE395:=n3_;clear n0_ n1_ n2_ n3_;clear hb hbox hg;obtain ⟨hcz13_0,hcz13_1,hcz13_2,hcz13_3,hcz13_4⟩:=bc5 BK395.out;obtain ⟨hfz13_0,hfz13_1,hfz13_2,hfz13_3,hfz13_4⟩:=bf5 BK395.out))
     go_ret
     exact ⟨by first | rfl | (simp [errW_none,errW_some] <;> rfl) | (simp [*,errW_none,errW_some] <;> rfl),by repeat (first | (with_reducible first | exact HB.out | apply below_alloc | apply pw_below_drewN | apply below_drew1 | refine below_set ?_ GE395.out) | exact HB.out)⟩
  ·rw [if_neg c5] at H
   have c5b0 : (a0_1 == 0) = false:=beq_eq_false_iff_ne.mpr c5
   have c5b1 : (a0_1 != 0) = true:=bne_iff_ne.mpr c5
   obtain rfl:=Option.some.inj H
   go_enter Try.func127,Try.ntmps127
   go_wp2_with (first | ((with_reducible refine gate_dst (N:=1) rfl ?_);(try (refine gate_guard (by rfl) ?_;dsimp only));refine box_event ?hg (N:=1) ?hd (cs := #[.bool false, .int .u32 a0_1, .bool a0_2, .int .i64 a0_3, .slice A0_4 l0_4.length c0_4]) (t:=45) ?hr ?_;(case hd => rfl);(case hg => rfl);(case hr => first | (go_simp;done) | (go_simp;rfl));intro gb395 hg w14 hbox hb;have n0_:=Aside0.mk (below_step (by repeat (first | (with_reducible first | exact HB.out | apply below_alloc | apply pw_below_drewN | apply below_drew1) | exact HB.out)) hb);have n1_:=Aside0.mk (hbox);have n2_:=Aside0.mk ((by rw [hg];exact (below_size (by repeat (first | (with_reducible first | exact HB.out | apply below_alloc | apply pw_below_drewN | apply below_drew1) | exact HB.out))) : w.heap.size ≤ gb395));have n3_:=Aside0.mk ((by rw [hg];exact (below_size (by repeat (first | (with_reducible first | exact HB.out | apply below_alloc | apply pw_below_drewN | apply below_drew1) | exact HB.out))) : w.heap.size ≤ gb395));clear HB;have HB:=n0_;have BK395:=n1_;have GW395:=n2_;have GE395:=n3_;clear n0_ n1_ n2_ n3_;clear hb hbox hg;obtain ⟨hcz15_0,hcz15_1,hcz15_2,hcz15_3,hcz15_4⟩:=bc5 BK395.out;obtain ⟨hfz15_0,hfz15_1,hfz15_2,hfz15_3,hfz15_4⟩:=bf5 BK395.out))
   go_ret
   exact ⟨by first | rfl | (simp [errW_none,errW_some] <;> rfl) | (simp [*,errW_none,errW_some] <;> rfl),by repeat (first | (with_reducible first | exact HB.out | apply below_alloc | apply pw_below_drewN | apply below_drew1 | refine below_set ?_ GE395.out) | exact HB.out)⟩
end Go.Proofs.Ytcaefabbcjlkdaa.P
namespace Go.Proofs.Ytcaefabbcjlkdaa.P
open Go Go.RowKit Go.Proofs.YtcaefabbcjlkdaaW.PrintWords Go.Proofs.YtcaefabbcjlkdaaW.PrintLast Go.Proofs.YtcaefabbcjlkdaaW.PrintMore
set_option linter.unusedVariables false
set_option linter.unusedSimpArgs false
theorem specZero_at (x : S45) (A : Option Addr) (c : Nat) (w : World) (z : Bool) (hz : zeroB x = z) (hr : (Kd.int .u8).C w A x.f4.length x.f4) (hc : x.f4.length ≤ c) :
  Calls Try.prog 127 #[.agg #[.bool x.f0, .int .u32 x.f1, .bool x.f2, .int .i64 x.f3, .slice A x.f4.length c]] w fun e w' => e = .returned (.bool z) ∧ Below w.heap.size w w':=by
 refine spec_l3zeroFrame.calls x.f0 x.f1 x.f2 x.f3 A c x.f4 z w hr hc ?_
 rw [← hz]
 unfold spec_l3zeroFrame.f zeroB
 have h0 : ((x.f4.length : Int) == 0) = (x.f4.length == 0):=by
  cases x.f4 with
  | nil => rfl
  | cons a l => rfl
 by_cases q0 : x.f0 = true
 ·rw [if_pos q0,q0];rfl
 ·rw [if_neg q0,show x.f0 = false by cases h : x.f0;rfl;exact absurd h q0]
  by_cases q1 : x.f1 = 0
  ·rw [if_pos q1,q1]
   by_cases q2 : x.f2 = true
   ·rw [if_pos q2,q2];rfl
   ·rw [if_neg q2,show x.f2 = false by cases h : x.f2;rfl;exact absurd h q2]
    by_cases q3 : x.f3 = 0
    ·rw [if_pos q3,q3,h0];rfl
    ·rw [if_neg q3,show (x.f3 == 0) = false from beq_eq_false_iff_ne.2 q3];rfl
  ·rw [if_neg q1,show (x.f1 == 0) = false from beq_eq_false_iff_ne.2 q1];rfl
theorem specValid_at (x : S45) (A : Option Addr) (c : Nat) (w : World) (z : Bool) (hz : valF x = z) (hr : (Kd.int .u8).C w A x.f4.length x.f4) (hc : x.f4.length ≤ c) :
  Calls Try.prog 75 #[.agg #[.bool x.f0, .int .u32 x.f1, .bool x.f2, .int .i64 x.f3, .slice A x.f4.length c]] w fun e w' => e = .returned (.bool z) ∧ Below w.heap.size w w':=by
 rw [← hz]
 obtain ⟨k,hk⟩:=(specValid_ev x.f0 x.f1 x.f2 x.f3 x.f4).rounds
 exact spec_ValidFrame.calls k x.f0 x.f1 x.f2 x.f3 A c x.f4 _ w hr hc hk
theorem below_drewN' {B : Nat} {a w : World} (h : Below B a w) (n : Nat) : Below B a (w.drewN n):=⟨h.os,h.tape,h.output,h.size,h.block⟩
theorem Uniq.free {g : S87 → Int} {bs : List S87} {n : Nat} (H : Uniq g bs n) (hn : ¬ Live bs n) : Uniq g bs (n + 1):=fun i j h1 h2 h3 h4 => by
 have : i ≠ n:=by rintro rfl;exact hn h3
 exact H i j h1 (by omega) h3 h4
theorem Uniq.more {g : S87 → Int} {bs : List S87} {n : Nat} (H : Uniq g bs n) (hn : ∀ t,t < n → Live bs t → g (bxAt bs n) ≠ g (bxAt bs t)) : Uniq g bs (n + 1):=fun i j h1 h2 h3 h4 => by
 by_cases e : i = n
 ·subst e;exact hn j h1 h4
 ·exact H i j h1 (by omega) h3 h4
set_option maxRecDepth 100000 in
set_option maxHeartbeats 8000000 in
theorem specOkBoxes_v (h : HV) (o : Bool) (ho : o = true ↔ GoodB h.stamp h.bs) (w : World) (C : List Value) (hR : HRead w h C) (hS : HSm h) :
  Calls Try.prog 128 #[.agg ⟨C⟩] w fun e w' => e = .returned (.bool o) ∧ Below w.heap.size w w':=by
 obtain ⟨Af,cf,Ab,cb,Aq,cq,Ae,ce,rfl,_,_,rb,lb,_,_,_,_⟩:=hR
 have RB:=Lib.hid rb
 have HO:=Lib.hid ho
 have SM:=Lib.hid hS
 clear rb ho hS
 have HB_0 : Hid (Below w.heap.size w w):=Lib.hid (Below.refl _ _)
 go_enter Try.func128,Try.ntmps128
 go_upto_region 1 with (first | ((with_reducible refine gate_dst (N:=1) rfl ?_);refine box_event ?hg (N:=1) ?hd (cs:=⟨hostC h (.slice Af h.fs.length cf) (.slice Ab h.bs.length cb) (.slice Aq h.fr.length cq) (.slice Ae h.ev.length ce)⟩) (t:=32) ?hr ?_;(case hd => rfl);(case hg => rfl);(case hr => first | (go_simp;done) | (go_simp;rfl));intro g1 hg w1 hbox hb;have LO_HB_g1 : Hid (w.heap.size ≤ g1):=Lib.hid (by rw [hg];exact HB_0.out.size);have HEg1:=Lib.hid hg;have HB_1:=Lib.hid (below_then HB_0.out HB_0.out.size hb);have Xg1_1:=Lib.hid hbox;clear hg hbox hb))
 go_wp2_with (fail)
 go_loopw [4,3] (fun v4 v3 wr => ∃ i : Nat,i ≤ h.bs.length ∧ v4 = .int .i64 i ∧ v3 = .int .i64 (busyN h.bs i) ∧ Aside0 (∀ j,j < i → boxOk h.stamp (bxAt h.bs j)) ∧ Aside0 (Uniq (·.f1) h.bs i) ∧ Aside0 (Uniq (·.f2) h.bs i) ∧ Aside0 (wr.heap[g1]? = some (.cells ⟨hostC h (.slice Af h.fs.length cf) (.slice Ab h.bs.length cb) (.slice Aq h.fr.length cq) (.slice Ae h.ev.length ce)⟩ 32 (0,0))) ∧ Aside0 (Below w.heap.size w wr)) (fun v4 _ _ => h.bs.length - (intOf v4).toNat)
 case atStart => exact ⟨0,Nat.zero_le _,rfl,rfl,⟨fun j hj => absurd hj (Nat.not_lt_zero _)⟩,⟨fun i j _ hj => absurd hj (Nat.not_lt_zero _)⟩,⟨fun i j _ hj => absurd hj (Nat.not_lt_zero _)⟩,⟨Xg1_1.out⟩,⟨HB_1.out⟩⟩
 case round =>
  clear Xg1_1 HB_1
  obtain ⟨i,hi,rfl,rfl,HONE,HU1,HU2,HX,HB⟩:=hrel
  have y5 : wr.cell? ⟨g1,5,none⟩ = some (.slice Ab h.bs.length cb):=blk_cell HX.out 5
  by_cases hlt : i < h.bs.length
  ·have b2 : decide ((i : Int) < (h.bs.length : Int)) = true:=decide_eq_true (by omega)
   have p5 : (0 ≤ (i : Int)) = True:=eq_true (by omega)
   have q5 : ((i : Int) < (h.bs.length : Int)) = True:=eq_true (by omega)
   have qn : (i < h.bs.length) = True:=eq_true hlt
   have hn : wrap64 ((i : Int) + 1) = (i : Int) + 1:=by have:=SM.out.l2;unfold wrap64;omega
   have HLT:=Lib.hid hlt
   have HI:=Lib.hid hi
   have HN:=Lib.hid hn
   obtain ⟨ad,A8,c8,ea,k0,k1,k2,k3,k4,k5,k6,k7,l8,g8⟩:=at_T87 (Kd.C_below RB.out HB.out) (i : Int) (by omega) (by omega)
   subst ea
   clear hlt hi
   rw [Int.toNat_natCast] at k0 k1 k2 k3 k4 k5 k6 k7
   obtain ⟨b,hb⟩ : ∃ b,b = rd_T87 h.bs (i : Int):=⟨_,rfl⟩
   rw [← hb] at k0 k1 k2 k3 k4 k5 k6 k7 l8 g8
   have HBX : Hid (b = bxAt h.bs i):=Lib.hid hb
   have HD8 : Hid (b.f3.f4.length ≤ 10000000):=Lib.hid (by rw [hb];exact SM.out.d2 _ (List.mem_of_getElem? (getD_at h.bs i z87 HLT.out)))
   have L8:=Lib.hid l8
   have G8:=Lib.hid g8
   clear hb l8 g8
   have HW_0 : Hid (Below wr.heap.size wr wr):=Lib.hid (Below.refl _ _)
   go_upto_region 6 with (first | ((with_reducible refine gate_dst (N:=5) rfl ?_);refine box_event ?hg (N:=5) ?hd (cs := #[.int .i64 0, .int .i64 0, .int .i64 0, .bool false, .int .u32 0, .bool false, .int .i64 0, .slice none 0 0]) (t:=87) ?hr ?_;(case hd => rfl);(case hg => rfl);(case hr => first | (go_simp;done) | (go_simp;rfl));intro gb hg w1 hbox hb;have LO_HB_gb : Hid (w.heap.size ≤ gb):=Lib.hid (by rw [hg];exact HB.out.size);have LO_HW_gb : Hid (wr.heap.size ≤ gb):=Lib.hid (by rw [hg];exact HW_0.out.size);have NE_g1_gb : Hid (g1 ≠ gb):=Lib.hid (fun e => by have h1:=blk_lt HX.out;omega);have HEgb:=Lib.hid hg;have HB_1:=Lib.hid (below_then HB.out HB.out.size hb);have HW_1:=Lib.hid (below_then HW_0.out HW_0.out.size hb);have X_1:=Lib.hid (blk_below HX.out hb);have Xgb_1:=Lib.hid hbox;clear hg hbox hb) | ((with_reducible refine gate_store (t:=87) (p:=5) rfl ?_);refine store_box rfl rfl rfl (g:=gb) (j:=0) (cs := #[.int .i64 0, .int .i64 0, .int .i64 0, .bool false, .int .u32 0, .bool false, .int .i64 0, .slice none 0 0]) (cs':=⟨[.int .i64 b.f0, .int .i64 b.f1, .int .i64 b.f2, .bool b.f3.f0, .int .u32 b.f3.f1, .bool b.f3.f2, .int .i64 b.f3.f3, .slice A8 b.f3.f4.length c8]⟩) (seg := [.int .i64 b.f0, .int .i64 b.f1, .int .i64 b.f2, .bool b.f3.f0, .int .u32 b.f3.f1, .bool b.f3.f2, .int .i64 b.f3.f3, .slice A8 b.f3.f4.length c8]) rfl rfl Xgb_1.out rfl (by kernel_rfl) rfl rfl rfl ?_;intro w2 hx hT;have HB_2:=Lib.hid (hT.below HB_1.out HB_1.out.size (fun k hk => by rw [hk];exact LO_HB_gb.out));have HW_2:=Lib.hid (hT.below HW_1.out HW_1.out.size (fun k hk => by rw [hk];exact LO_HW_gb.out));have X_2:=Lib.hid (hT.blk X_1.out NE_g1_gb.out);have Xgb_2:=Lib.hid hx;clear hx hT))
   clear k0 k1 k2 k3 k4 k5 k6 k7 y5
   have y0 : w2.cell? ⟨gb,0,none⟩ = some (.int .i64 b.f0):=blk_cell Xgb_2.out 0
   have y1 : w2.cell? ⟨gb,1,none⟩ = some (.int .i64 b.f1):=blk_cell Xgb_2.out 1
   have y2 : w2.cell? ⟨gb,2,none⟩ = some (.int .i64 b.f2):=blk_cell Xgb_2.out 2
   have y3 : w2.cell? ⟨gb,3,none⟩ = some (.bool b.f3.f0):=blk_cell Xgb_2.out 3
   have y4 : w2.cell? ⟨gb,4,none⟩ = some (.int .u32 b.f3.f1):=blk_cell Xgb_2.out 4
   have y5 : w2.cell? ⟨gb,5,none⟩ = some (.bool b.f3.f2):=blk_cell Xgb_2.out 5
   have y6 : w2.cell? ⟨gb,6,none⟩ = some (.int .i64 b.f3.f3):=blk_cell Xgb_2.out 6
   have y7 : w2.cell? ⟨gb,7,none⟩ = some (.slice A8 b.f3.f4.length c8):=blk_cell Xgb_2.out 7
   have n9 : w2.cell? ⟨g1,9,none⟩ = some (.int .i64 h.stamp):=blk_cell X_2.out 9
   by_cases hz : b.f0 = 0
   ·have e0 : (b.f0 == 0) = true:=beq_iff_eq.2 hz
    have HZ:=Lib.hid hz
    clear hz
    by_cases r0 : b.f1 ≠ 0
    ·have sr0 : (b.f1 != 0) = true:=bne_iff_ne.2 r0
     have R0:=Lib.hid r0
     clear r0
     go_wp2_with (fail)
     go_ret
     exact ⟨by rw [isF HO.out (fun G => (by have h1:=(G.one i HLT.out).1;rw [← HBX.out] at h1;exact R0.out (h1 HZ.out).1))];rfl,HB_2.out⟩
    have sr0 : (b.f1 != 0) = false:=by rw [Classical.not_not.1 r0];rfl
    have R0:=Lib.hid r0
    clear r0
    by_cases r1 : b.f2 ≠ 0
    ·have sr1 : (b.f2 != 0) = true:=bne_iff_ne.2 r1
     have R1:=Lib.hid r1
     clear r1
     go_wp2_with (fail)
     go_ret
     exact ⟨by rw [isF HO.out (fun G => (by have h1:=(G.one i HLT.out).1;rw [← HBX.out] at h1;exact R1.out (h1 HZ.out).2.1))];rfl,HB_2.out⟩
    have sr1 : (b.f2 != 0) = false:=by rw [Classical.not_not.1 r1];rfl
    have R1:=Lib.hid r1
    clear r1
    cases q3 : zeroB b.f3 with
    | false =>
     have Q3:=Lib.hid q3
     clear q3
     go_wp2_with (first | (go_at_call 127;refine (specZero_at b.f3 A8 c8 w2 false Q3.out (Kd.C_below G8.out HW_2.out) L8.out).mono ?_;rintro e w3 ⟨rfl,hb⟩;have HB_3:=Lib.hid (below_then HB_2.out HB_2.out.size hb);have HW_3:=Lib.hid (below_then HW_2.out HW_2.out.size hb);have X_3:=Lib.hid (blk_below X_2.out hb);have Xgb_3:=Lib.hid (blk_below Xgb_2.out hb);clear hb))
     go_ret
     exact ⟨by rw [isF HO.out (fun G => (by have h1:=(G.one i HLT.out).1;rw [← HBX.out] at h1;exact by have h2:=(h1 HZ.out).2.2;rw [Q3.out] at h2;cases h2))];rfl,HB_3.out⟩
    | true =>
     have Q3:=Lib.hid q3
     clear q3
     go_wp2_with (first | (go_at_call 127;refine (specZero_at b.f3 A8 c8 w2 true Q3.out (Kd.C_below G8.out HW_2.out) L8.out).mono ?_;rintro e w3 ⟨rfl,hb⟩;have HB_3:=Lib.hid (below_then HB_2.out HB_2.out.size hb);have HW_3:=Lib.hid (below_then HW_2.out HW_2.out.size hb);have X_3:=Lib.hid (blk_below X_2.out hb);have Xgb_3:=Lib.hid (blk_below Xgb_2.out hb);clear hb))
     go_roundw
     case rel =>
      have hz : ¬ Live h.bs i:=fun e => e (by rw [← HBX.out];exact HZ.out)
      have hz' : (bxAt h.bs i).f0 = 0:=by rw [← HBX.out];exact HZ.out
      exact ⟨i + 1,HLT.out,by rw [HN.out];rfl,by rw [busyN,if_pos hz'],⟨fun j hj => by by_cases e : j = i;subst e;exact (by rw [← HBX.out];exact ⟨fun _ => ⟨Classical.not_not.1 R0.out,Classical.not_not.1 R1.out,Q3.out⟩,fun h => absurd HZ.out h⟩);exact HONE.out j (by omega)⟩,⟨HU1.out.free hz⟩,⟨HU2.out.free hz⟩,⟨X_3.out⟩,⟨HB_3.out⟩⟩
     case measure => rw [HN.out];have:=HLT.out;simp [intOf];omega
   ·have e0 : (b.f0 == 0) = false:=beq_eq_false_iff_ne.2 hz
    have HZ:=Lib.hid hz
    clear hz
    by_cases r0 : b.f0 < 0
    ·have sr0 : decide (b.f0 < 0) = true:=decide_eq_true r0
     have R0:=Lib.hid r0
     clear r0
     go_wp2_with (fail)
     go_ret
     exact ⟨by rw [isF HO.out (fun G => (by have h1:=(G.one i HLT.out).2;rw [← HBX.out] at h1;have h2:=h1 HZ.out;exact by have:=R0.out;omega))];rfl,HB_2.out⟩
    have sr0 : decide (b.f0 < 0) = false:=decide_eq_false r0
    have R0:=Lib.hid r0
    clear r0
    by_cases r1 : b.f0 > 3
    ·have sr1 : decide (b.f0 > 3) = true:=decide_eq_true r1
     have R1:=Lib.hid r1
     clear r1
     go_wp2_with (fail)
     go_ret
     exact ⟨by rw [isF HO.out (fun G => (by have h1:=(G.one i HLT.out).2;rw [← HBX.out] at h1;have h2:=h1 HZ.out;exact by have:=R1.out;omega))];rfl,HB_2.out⟩
    have sr1 : decide (b.f0 > 3) = false:=decide_eq_false r1
    have R1:=Lib.hid r1
    clear r1
    by_cases r2 : b.f1 < 0
    ·have sr2 : decide (b.f1 < 0) = true:=decide_eq_true r2
     have R2:=Lib.hid r2
     clear r2
     go_wp2_with (fail)
     go_ret
     exact ⟨by rw [isF HO.out (fun G => (by have h1:=(G.one i HLT.out).2;rw [← HBX.out] at h1;have h2:=h1 HZ.out;exact by have:=R2.out;omega))];rfl,HB_2.out⟩
    have sr2 : decide (b.f1 < 0) = false:=decide_eq_false r2
    have R2:=Lib.hid r2
    clear r2
    by_cases r3 : b.f1 > 9999
    ·have sr3 : decide (b.f1 > 9999) = true:=decide_eq_true r3
     have R3:=Lib.hid r3
     clear r3
     go_wp2_with (fail)
     go_ret
     exact ⟨by rw [isF HO.out (fun G => (by have h1:=(G.one i HLT.out).2;rw [← HBX.out] at h1;have h2:=h1 HZ.out;exact by have:=R3.out;omega))];rfl,HB_2.out⟩
    have sr3 : decide (b.f1 > 9999) = false:=decide_eq_false r3
    have R3:=Lib.hid r3
    clear r3
    by_cases r4 : b.f2 < 0
    ·have sr4 : decide (b.f2 < 0) = true:=decide_eq_true r4
     have R4:=Lib.hid r4
     clear r4
     go_wp2_with (fail)
     go_ret
     exact ⟨by rw [isF HO.out (fun G => (by have h1:=(G.one i HLT.out).2;rw [← HBX.out] at h1;have h2:=h1 HZ.out;exact by have:=R4.out;omega))];rfl,HB_2.out⟩
    have sr4 : decide (b.f2 < 0) = false:=decide_eq_false r4
    have R4:=Lib.hid r4
    clear r4
    by_cases r5 : b.f2 ≥ h.stamp
    ·have sr5 : decide (b.f2 ≥ h.stamp) = true:=decide_eq_true r5
     have R5:=Lib.hid r5
     clear r5
     go_wp2_with (fail)
     go_ret
     exact ⟨by rw [isF HO.out (fun G => (by have h1:=(G.one i HLT.out).2;rw [← HBX.out] at h1;have h2:=h1 HZ.out;exact by have:=R5.out;omega))];rfl,HB_2.out⟩
    have sr5 : decide (b.f2 ≥ h.stamp) = false:=decide_eq_false r5
    have R5:=Lib.hid r5
    clear r5
    cases q3 : valF b.f3 with
    | false =>
     have Q3:=Lib.hid q3
     clear q3
     go_wp2_with (first | (go_at_call 75;refine (specValid_at b.f3 A8 c8 w2 false Q3.out (Kd.C_below G8.out HW_2.out) L8.out).mono ?_;rintro e w3 ⟨rfl,hb⟩;have HB_3:=Lib.hid (below_then HB_2.out HB_2.out.size hb);have HW_3:=Lib.hid (below_then HW_2.out HW_2.out.size hb);have X_3:=Lib.hid (blk_below X_2.out hb);have Xgb_3:=Lib.hid (blk_below Xgb_2.out hb);clear hb))
     go_ret
     exact ⟨by rw [isF HO.out (fun G => (by have h1:=(G.one i HLT.out).2;rw [← HBX.out] at h1;have h2:=h1 HZ.out;exact by have h3:=h2.2.2.2.2.2.2;rw [Q3.out] at h3;cases h3))];rfl,HB_3.out⟩
    | true =>
     have Q3:=Lib.hid q3
     clear q3
     go_upto_region 13 with (first | (go_at_call 75;refine (specValid_at b.f3 A8 c8 w2 true Q3.out (Kd.C_below G8.out HW_2.out) L8.out).mono ?_;rintro e w3 ⟨rfl,hb⟩;have HB_3:=Lib.hid (below_then HB_2.out HB_2.out.size hb);have HW_3:=Lib.hid (below_then HW_2.out HW_2.out.size hb);have X_3:=Lib.hid (blk_below X_2.out hb);have Xgb_3:=Lib.hid (blk_below Xgb_2.out hb);clear hb))
     clear y0 y1 y2 y3 y4 y5 y6 y7 n9
     have y0 : w3.cell? ⟨gb,0,none⟩ = some (.int .i64 b.f0):=blk_cell Xgb_3.out 0
     have HONE1 : Hid (∀ j,j < i + 1 → boxOk h.stamp (bxAt h.bs j)):=Lib.hid (fun j hj => by by_cases e : j = i;subst e;exact (by rw [← HBX.out];exact ⟨fun h => absurd h HZ.out,fun _ => ⟨by have:=R0.out;omega,by have:=R1.out;omega,by have:=R2.out;omega,by have:=R3.out;omega,by have:=R4.out;omega,by have:=R5.out;omega,Q3.out⟩⟩);exact HONE.out j (by omega))
     obtain ⟨nb,hnb⟩ : ∃ nb,nb = busyN h.bs (i + 1):=⟨_,rfl⟩
     have HNB:=Lib.hid hnb
     clear sr0 sr1 sr2 sr3 sr4 sr5 e0
     by_cases q1 : b.f0 = 1
     ·have e1 : (b.f0 != 1) = false:=by rw [q1];rfl
      have Q1:=Lib.hid q1
      clear q1
      have hq : busyN h.bs i = nb:=by rw [hnb,busyN, ← HBX.out,if_neg HZ.out,if_pos Q1.out]
      rw [hq]
      clear hq
      clear hnb
      go_wp2_with (fail)
      clear y0 e1 b2 p5 q5 qn hn
      go_loopw [6] (fun v6 wr => ∃ j : Nat,j ≤ i ∧ v6 = .int .i64 j ∧ Aside0 (∀ t,t < j → Live h.bs t → (bxAt h.bs t).f1 ≠ b.f1 ∧ (bxAt h.bs t).f2 ≠ b.f2) ∧ Aside0 (wr.heap[g1]? = some (.cells ⟨hostC h (.slice Af h.fs.length cf) (.slice (some ad) h.bs.length cb) (.slice Aq h.fr.length cq) (.slice Ae h.ev.length ce)⟩ 32 (0,0))) ∧ Aside0 (wr.heap[gb]? = some (.cells ⟨[.int .i64 b.f0, .int .i64 b.f1, .int .i64 b.f2, .bool b.f3.f0, .int .u32 b.f3.f1, .bool b.f3.f2, .int .i64 b.f3.f3, .slice A8 b.f3.f4.length c8]⟩ 87 (0,0))) ∧ Aside0 (Below w.heap.size w wr)) (fun v6 _ => i - (intOf v6).toNat)
      case atStart => exact ⟨0,Nat.zero_le _,rfl,⟨fun t ht => absurd ht (Nat.not_lt_zero _)⟩,⟨X_3.out⟩,⟨Xgb_3.out⟩,⟨HB_3.out⟩⟩
      case round =>
       clear X_3 Xgb_3 HB_3
       obtain ⟨j,hj,rfl,HT,HXj,HGj,HBj⟩:=hrel
       by_cases hlt : j < i
       ·have hjl : j < h.bs.length:=Nat.lt_trans hlt HLT.out
        have a1 : (0 : Int) ≤ (j : Int):=Int.natCast_nonneg _
        have a2 : (j : Int) < (h.bs.length : Int):=by exact_mod_cast hjl
        have HC3:=Kd.C_below RB.out HBj.out
        obtain ⟨ad2,B8,d8,ea2,k0,k1,k2,k3,k4,k5,k6,k7,l8,g8⟩:=at_T87 HC3 (j : Int) a1 a2
        cases ea2
        clear l8 g8 k3 k4 k5 k6 k7 a1 a2 HC3
        have b2 : decide ((j : Int) < (i : Int)) = true:=decide_eq_true (by omega)
        have p5 : (0 ≤ (j : Int)) = True:=eq_true (by omega)
        have q5 : ((j : Int) < (h.bs.length : Int)) = True:=eq_true (by omega)
        have qn : (j < h.bs.length) = True:=eq_true hjl
        have hn : wrap64 ((j : Int) + 1) = (j : Int) + 1:=by have:=SM.out.l2;have:=HLT.out;unfold wrap64;omega
        have HLJ:=Lib.hid hlt
        have HNJ:=Lib.hid hn
        have y5 : wr.cell? ⟨g1,5,none⟩ = some (.slice (some ad) h.bs.length cb):=blk_cell HXj.out 5
        have y1 : wr.cell? ⟨gb,1,none⟩ = some (.int .i64 b.f1):=blk_cell HGj.out 1
        have y2 : wr.cell? ⟨gb,2,none⟩ = some (.int .i64 b.f2):=blk_cell HGj.out 2
        clear hlt hj hjl
        rw [Int.toNat_natCast] at k0 k1 k2
        obtain ⟨x,hx⟩ : ∃ x,x = rd_T87 h.bs (j : Int):=⟨_,rfl⟩
        rw [← hx] at k0 k1 k2
        have HXE : Hid (x = bxAt h.bs j):=Lib.hid hx
        clear hx
        by_cases u0 : x.f0 = 0
        ·have t0 : (x.f0 != 0) = false:=by rw [u0];rfl
         have U0:=Lib.hid u0
         clear u0
         go_wp2_with (fail)
         go_quiet (fail)
         go_wp2_with (fail)
         go_roundw
         case rel => exact ⟨j + 1,HLJ.out,by rw [HNJ.out];rfl,⟨fun t ht hl => by by_cases e : t = j;subst e;have hl2:=hl;unfold Live at hl2;rw [← HXE.out] at hl2 ⊢;exact absurd U0.out hl2;exact HT.out t (by omega) hl⟩,⟨blk_below HXj.out (below_drewN' (Below.refl _ _) _)⟩,⟨blk_below HGj.out (below_drewN' (Below.refl _ _) _)⟩,⟨below_drewN' HBj.out _⟩⟩
         case measure => rw [HNJ.out];have:=HLJ.out;simp [intOf];omega
        have t0 : (x.f0 != 0) = true:=bne_iff_ne.2 u0
        have U0:=Lib.hid u0
        clear u0
        by_cases u1 : x.f1 = b.f1
        ·have t1 : (x.f1 == b.f1) = true:=beq_iff_eq.2 u1
         have U1:=Lib.hid u1
         clear u1
         go_wp2_with (fail)
         go_quiet (fail)
         go_wp2_with (fail)
         go_ret
         exact ⟨by rw [isF HO.out (fun G => G.tag i j HLJ.out HLT.out (by rw [Live, ← HBX.out];exact HZ.out) (by rw [Live, ← HXE.out];exact U0.out) (by rw [← HBX.out, ← HXE.out];exact (U1.out).symm))];rfl,below_drewN' HBj.out _⟩
        have t1 : (x.f1 == b.f1) = false:=beq_eq_false_iff_ne.2 u1
        have U1:=Lib.hid u1
        clear u1
        by_cases u2 : x.f2 = b.f2
        ·have t2 : (x.f2 == b.f2) = true:=beq_iff_eq.2 u2
         have U2:=Lib.hid u2
         clear u2
         go_wp2_with (fail)
         go_quiet (fail)
         go_wp2_with (fail)
         go_ret
         exact ⟨by rw [isF HO.out (fun G => G.stamp i j HLJ.out HLT.out (by rw [Live, ← HBX.out];exact HZ.out) (by rw [Live, ← HXE.out];exact U0.out) (by rw [← HBX.out, ← HXE.out];exact (U2.out).symm))];rfl,below_drewN' HBj.out _⟩
        have t2 : (x.f2 == b.f2) = false:=beq_eq_false_iff_ne.2 u2
        have U2:=Lib.hid u2
        clear u2
        go_wp2_with (fail)
        go_quiet (fail)
        go_wp2_with (fail)
        go_roundw
        case rel => exact ⟨j + 1,HLJ.out,by rw [HNJ.out];rfl,⟨fun t ht hl => by by_cases e : t = j;subst e;have hl2:=hl;unfold Live at hl2;rw [← HXE.out] at hl2 ⊢;exact ⟨U1.out,U2.out⟩;exact HT.out t (by omega) hl⟩,⟨blk_below HXj.out (below_drewN' (Below.refl _ _) _)⟩,⟨blk_below HGj.out (below_drewN' (Below.refl _ _) _)⟩,⟨below_drewN' HBj.out _⟩⟩
        case measure => rw [HNJ.out];have:=HLJ.out;simp [intOf];omega
       ·have hij : j = i:=by omega
        subst hij
        have b2 : decide ((j : Int) < (j : Int)) = false:=decide_eq_false (by omega)
        have hn : wrap64 ((j : Int) + 1) = (j : Int) + 1:=HN.out
        go_wp2_with (fail)
        go_roundw
        case rel => exact ⟨j + 1,HLT.out,by rw [HN.out];rfl,by rw [HNB.out],⟨HONE1.out⟩,⟨HU1.out.more (fun t ht hl => by have:=(HT.out t ht hl).1;rw [HBX.out] at this;exact fun e => this e.symm)⟩,⟨HU2.out.more (fun t ht hl => by have:=(HT.out t ht hl).2;rw [HBX.out] at this;exact fun e => this e.symm)⟩,⟨HXj.out⟩,⟨HBj.out⟩⟩
        case measure => rw [HN.out];have:=HLT.out;simp [intOf];omega
     ·have e1 : (b.f0 != 1) = true:=bne_iff_ne.2 q1
      have Q1:=Lib.hid q1
      clear q1
      have hw : wrap64 ((busyN h.bs i : Int) + 1) = (nb : Int):=by rw [hnb,busyN, ← HBX.out,if_neg HZ.out,if_neg Q1.out];have h1:=busyN_le h.bs i;have h2:=SM.out.l2;have h3:=HLT.out;unfold wrap64;omega
      clear hnb
      go_wp2_with (fail)
      rw [hw]
      clear hw
      clear y0 e1 b2 p5 q5 qn hn
      go_loopw [6] (fun v6 wr => ∃ j : Nat,j ≤ i ∧ v6 = .int .i64 j ∧ Aside0 (∀ t,t < j → Live h.bs t → (bxAt h.bs t).f1 ≠ b.f1 ∧ (bxAt h.bs t).f2 ≠ b.f2) ∧ Aside0 (wr.heap[g1]? = some (.cells ⟨hostC h (.slice Af h.fs.length cf) (.slice (some ad) h.bs.length cb) (.slice Aq h.fr.length cq) (.slice Ae h.ev.length ce)⟩ 32 (0,0))) ∧ Aside0 (wr.heap[gb]? = some (.cells ⟨[.int .i64 b.f0, .int .i64 b.f1, .int .i64 b.f2, .bool b.f3.f0, .int .u32 b.f3.f1, .bool b.f3.f2, .int .i64 b.f3.f3, .slice A8 b.f3.f4.length c8]⟩ 87 (0,0))) ∧ Aside0 (Below w.heap.size w wr)) (fun v6 _ => i - (intOf v6).toNat)
      case atStart => exact ⟨0,Nat.zero_le _,rfl,⟨fun t ht => absurd ht (Nat.not_lt_zero _)⟩,⟨X_3.out⟩,⟨Xgb_3.out⟩,⟨HB_3.out⟩⟩
      case round =>
       clear X_3 Xgb_3 HB_3
       obtain ⟨j,hj,rfl,HT,HXj,HGj,HBj⟩:=hrel
       by_cases hlt : j < i
       ·have hjl : j < h.bs.length:=Nat.lt_trans hlt HLT.out
        have a1 : (0 : Int) ≤ (j : Int):=Int.natCast_nonneg _
        have a2 : (j : Int) < (h.bs.length : Int):=by exact_mod_cast hjl
        have HC3:=Kd.C_below RB.out HBj.out
        obtain ⟨ad2,B8,d8,ea2,k0,k1,k2,k3,k4,k5,k6,k7,l8,g8⟩:=at_T87 HC3 (j : Int) a1 a2
        cases ea2
        clear l8 g8 k3 k4 k5 k6 k7 a1 a2 HC3
        have b2 : decide ((j : Int) < (i : Int)) = true:=decide_eq_true (by omega)
        have p5 : (0 ≤ (j : Int)) = True:=eq_true (by omega)
        have q5 : ((j : Int) < (h.bs.length : Int)) = True:=eq_true (by omega)
        have qn : (j < h.bs.length) = True:=eq_true hjl
        have hn : wrap64 ((j : Int) + 1) = (j : Int) + 1:=by have:=SM.out.l2;have:=HLT.out;unfold wrap64;omega
        have HLJ:=Lib.hid hlt
        have HNJ:=Lib.hid hn
        have y5 : wr.cell? ⟨g1,5,none⟩ = some (.slice (some ad) h.bs.length cb):=blk_cell HXj.out 5
        have y1 : wr.cell? ⟨gb,1,none⟩ = some (.int .i64 b.f1):=blk_cell HGj.out 1
        have y2 : wr.cell? ⟨gb,2,none⟩ = some (.int .i64 b.f2):=blk_cell HGj.out 2
        clear hlt hj hjl
        rw [Int.toNat_natCast] at k0 k1 k2
        obtain ⟨x,hx⟩ : ∃ x,x = rd_T87 h.bs (j : Int):=⟨_,rfl⟩
        rw [← hx] at k0 k1 k2
        have HXE : Hid (x = bxAt h.bs j):=Lib.hid hx
        clear hx
        by_cases u0 : x.f0 = 0
        ·have t0 : (x.f0 != 0) = false:=by rw [u0];rfl
         have U0:=Lib.hid u0
         clear u0
         go_wp2_with (fail)
         go_quiet (fail)
         go_wp2_with (fail)
         go_roundw
         case rel => exact ⟨j + 1,HLJ.out,by rw [HNJ.out];rfl,⟨fun t ht hl => by by_cases e : t = j;subst e;have hl2:=hl;unfold Live at hl2;rw [← HXE.out] at hl2 ⊢;exact absurd U0.out hl2;exact HT.out t (by omega) hl⟩,⟨blk_below HXj.out (below_drewN' (Below.refl _ _) _)⟩,⟨blk_below HGj.out (below_drewN' (Below.refl _ _) _)⟩,⟨below_drewN' HBj.out _⟩⟩
         case measure => rw [HNJ.out];have:=HLJ.out;simp [intOf];omega
        have t0 : (x.f0 != 0) = true:=bne_iff_ne.2 u0
        have U0:=Lib.hid u0
        clear u0
        by_cases u1 : x.f1 = b.f1
        ·have t1 : (x.f1 == b.f1) = true:=beq_iff_eq.2 u1
         have U1:=Lib.hid u1
         clear u1
         go_wp2_with (fail)
         go_quiet (fail)
         go_wp2_with (fail)
         go_ret
         exact ⟨by rw [isF HO.out (fun G => G.tag i j HLJ.out HLT.out (by rw [Live, ← HBX.out];exact HZ.out) (by rw [Live, ← HXE.out];exact U0.out) (by rw [← HBX.out, ← HXE.out];exact (U1.out).symm))];rfl,below_drewN' HBj.out _⟩
        have t1 : (x.f1 == b.f1) = false:=beq_eq_false_iff_ne.2 u1
        have U1:=Lib.hid u1
        clear u1
        by_cases u2 : x.f2 = b.f2
        ·have t2 : (x.f2 == b.f2) = true:=beq_iff_eq.2 u2
         have U2:=Lib.hid u2
         clear u2
         go_wp2_with (fail)
         go_quiet (fail)
         go_wp2_with (fail)
         go_ret
         exact ⟨by rw [isF HO.out (fun G => G.stamp i j HLJ.out HLT.out (by rw [Live, ← HBX.out];exact HZ.out) (by rw [Live, ← HXE.out];exact U0.out) (by rw [← HBX.out, ← HXE.out];exact (U2.out).symm))];rfl,below_drewN' HBj.out _⟩
        have t2 : (x.f2 == b.f2) = false:=beq_eq_false_iff_ne.2 u2
        have U2:=Lib.hid u2
        clear u2
        go_wp2_with (fail)
        go_quiet (fail)
        go_wp2_with (fail)
        go_roundw
        case rel => exact ⟨j + 1,HLJ.out,by rw [HNJ.out];rfl,⟨fun t ht hl => by by_cases e : t = j;subst e;have hl2:=hl;unfold Live at hl2;rw [← HXE.out] at hl2 ⊢;exact ⟨U1.out,U2.out⟩;exact HT.out t (by omega) hl⟩,⟨blk_below HXj.out (below_drewN' (Below.refl _ _) _)⟩,⟨blk_below HGj.out (below_drewN' (Below.refl _ _) _)⟩,⟨below_drewN' HBj.out _⟩⟩
        case measure => rw [HNJ.out];have:=HLJ.out;simp [intOf];omega
       ·have hij : j = i:=by omega
        subst hij
        have b2 : decide ((j : Int) < (j : Int)) = false:=decide_eq_false (by omega)
        have hn : wrap64 ((j : Int) + 1) = (j : Int) + 1:=HN.out
        go_wp2_with (fail)
        go_roundw
        case rel => exact ⟨j + 1,HLT.out,by rw [HN.out];rfl,by rw [HNB.out],⟨HONE1.out⟩,⟨HU1.out.more (fun t ht hl => by have:=(HT.out t ht hl).1;rw [HBX.out] at this;exact fun e => this e.symm)⟩,⟨HU2.out.more (fun t ht hl => by have:=(HT.out t ht hl).2;rw [HBX.out] at this;exact fun e => this e.symm)⟩,⟨HXj.out⟩,⟨HBj.out⟩⟩
        case measure => rw [HN.out];have:=HLT.out;simp [intOf];omega
  ·have hii : i = h.bs.length:=by omega
   subst hii
   have b2 : decide ((h.bs.length : Int) < (h.bs.length : Int)) = false:=decide_eq_false (by omega)
   obtain ⟨nb,hnb⟩ : ∃ n,n = busyN h.bs h.bs.length:=⟨_,rfl⟩
   rw [← hnb]
   have HNB:=Lib.hid hnb
   clear hnb hi
   by_cases q1 : nb ≤ 1
   rotate_left
   ·have s1 : decide ((nb : Int) ≤ 1) = false:=decide_eq_false (by omega)
    have Q1:=Lib.hid q1
    clear q1
    go_wp2_with (fail)
    go_ret
    exact ⟨by rw [isF HO.out (fun G => Q1.out (by rw [HNB.out];exact G.busy))];rfl,HB.out⟩
   have s1 : decide ((nb : Int) ≤ 1) = true:=decide_eq_true (by omega)
   have Q1:=Lib.hid q1
   clear q1
   go_wp2_with (fail)
   go_ret
   have G : GoodB h.stamp h.bs:=⟨HONE.out,HU1.out,HU2.out,by rw [← HNB.out];exact Q1.out⟩
   exact ⟨by rw [HO.out.2 G];rfl,HB.out⟩
set_option maxRecDepth 100000 in
set_option maxHeartbeats 8000000 in
theorem best_v (w0 w : World) (p m : Nat) (h : HV) (l1 l2 : Int) (vf vb vq ve : Value) (f : Int → Option Int) (n : Nat) (H : SideP w0 w p m h l1 l2 vf vb vq ve f n) (hl : h.bs.length ≤ 10000000) (hd : ∀ y ∈ h.bs,y.f3.f4.length ≤ 10000000)
  (hq : ∀ y ∈ h.bs,0 ≤ y.f3.f1 ∧ okBytes y.f3.f4 = true) (hu : Uniq (·.f2) h.bs h.bs.length) (r : Int) (hr : IsBest h.bs h.bs.length r) :
  Calls Try.prog 79 #[.pointer (some ⟨p,0,none⟩)] w fun e w' => e = .returned (.int .i64 r) ∧ Below w.heap.size w w':=by
 obtain ⟨o,HRr⟩:=H.rows
 obtain ⟨Ab,cb,rfl,lb,rb⟩:=Kd.S_reads HRr.b
 have RB:=Lib.hid rb
 have HX_0:=Lib.hid H.blk
 have HL:=Lib.hid hl
 have HDD:=Lib.hid hd
 have HQQ:=Lib.hid hq
 have HU:=Lib.hid hu
 have HRF:=Lib.hid hr
 clear rb lb HRr H hl hd hr hq hu
 have HB_0 : Hid (Below w.heap.size w w):=Lib.hid (Below.refl _ _)
 have HST:=Lib.hid (IsBest.zero h.bs)
 go_enter Try.func79,Try.ntmps79
 have y5 : w.cell? ⟨p,5,none⟩ = some (.slice Ab h.bs.length cb):=blk_cell HX_0.out 5
 go_wp2_with (fail)
 clear y5
 go_loopw [3,4,13] (fun v3 v4 v13 wr => ∃ (i : Nat) (av : Int) (fv : ByteArray),i ≤ h.bs.length ∧ v3 = .int .i64 av ∧ v4 = .string fv ∧ v13 = .int .i64 i ∧ Aside0 (∀ j : Nat,av = (j : Int) → fv = arbB (bxAt h.bs j)) ∧ Aside0 (IsBest h.bs i av) ∧ Aside0 (wr.heap[p]? = some (.cells (sideP h m l1 l2 vf (.slice Ab h.bs.length cb) vq ve) 128 (0,0))) ∧ Aside0 (Below w.heap.size w wr)) (fun _ _ v13 _ => h.bs.length - (intOf v13).toNat)
 case atStart => exact ⟨0, -1,_,Nat.zero_le _,rfl,rfl,rfl,⟨fun j hj => by omega⟩,⟨HST.out⟩,⟨HX_0.out⟩,⟨HB_0.out⟩⟩
 case round =>
  obtain ⟨i,av,fv,hi,rfl,rfl,rfl,HF,HN0,HX,HB⟩:=hrel
  by_cases hlt : i < h.bs.length
  ·have b2 : decide ((i : Int) < (h.bs.length : Int)) = true:=decide_eq_true (by omega)
   have p5 : (0 ≤ (i : Int)) = True:=eq_true (by omega)
   have q5 : ((i : Int) < (h.bs.length : Int)) = True:=eq_true (by omega)
   have qn : (i < h.bs.length) = True:=eq_true hlt
   have hn : wrap64 ((i : Int) + 1) = (i : Int) + 1:=by have:=HL.out;unfold wrap64;omega
   have HLT:=Lib.hid hlt
   have HI:=Lib.hid hi
   have HN:=Lib.hid hn
   obtain ⟨ad,A8,c8,ea,k0,k1,k2,k3,k4,k5,k6,k7,l8,g8⟩:=at_T87 (Kd.C_below RB.out HB.out) (i : Int) (by omega) (by omega)
   subst ea
   clear hlt hi
   rw [Int.toNat_natCast] at k0 k1 k2 k3 k4 k5 k6 k7
   obtain ⟨b,hb⟩ : ∃ b,b = rd_T87 h.bs (i : Int):=⟨_,rfl⟩
   rw [← hb] at k0 k1 k2 k3 k4 k5 k6 k7 l8 g8
   have HBX : Hid (b = bxAt h.bs i):=Lib.hid hb
   have HD8 : Hid (b.f3.f4.length ≤ 10000000):=Lib.hid (by rw [hb];exact HDD.out _ (List.mem_of_getElem? (getD_at h.bs i z87 HLT.out)))
   have L8:=Lib.hid l8
   have G8:=Lib.hid g8
   have HQ : Hid (0 ≤ b.f3.f1 ∧ okBytes b.f3.f4 = true):=Lib.hid (by rw [hb];exact HQQ.out _ (List.mem_of_getElem? (getD_at h.bs i z87 HLT.out)))
   clear hb l8 g8
   have HW_0 : Hid (Below wr.heap.size wr wr):=Lib.hid (Below.refl _ _)
   go_upto_region 6 with (first | ((with_reducible refine gate_dst (N:=6) rfl ?_);refine box_event ?hg (N:=6) ?hd (cs := #[.int .i64 0, .int .i64 0, .int .i64 0, .bool false, .int .u32 0, .bool false, .int .i64 0, .slice none 0 0]) (t:=87) ?hr ?_;(case hd => rfl);(case hg => rfl);(case hr => first | (go_simp;done) | (go_simp;rfl));intro gb hg w1 hbox hb;have LO_HB_gb : Hid (w.heap.size ≤ gb):=Lib.hid (by rw [hg];exact HB.out.size);have NE_p_gb : Hid (p ≠ gb):=Lib.hid (fun e => by have h1:=blk_lt HX.out;omega);have LO_HW_gb : Hid (wr.heap.size ≤ gb):=Lib.hid (by rw [hg];exact HW_0.out.size);have HEgb:=Lib.hid hg;have HB_1:=Lib.hid (below_then HB.out HB.out.size hb);have X_1:=Lib.hid (blk_below HX.out hb);have HW_1:=Lib.hid (below_then HW_0.out HW_0.out.size hb);have Xgb_1:=Lib.hid hbox;clear hg hbox hb) | ((with_reducible refine gate_store (t:=87) (p:=6) rfl ?_);refine store_box rfl rfl rfl (g:=gb) (j:=0) (cs := #[.int .i64 0, .int .i64 0, .int .i64 0, .bool false, .int .u32 0, .bool false, .int .i64 0, .slice none 0 0]) (cs':=⟨[.int .i64 b.f0, .int .i64 b.f1, .int .i64 b.f2, .bool b.f3.f0, .int .u32 b.f3.f1, .bool b.f3.f2, .int .i64 b.f3.f3, .slice A8 b.f3.f4.length c8]⟩) (seg := [.int .i64 b.f0, .int .i64 b.f1, .int .i64 b.f2, .bool b.f3.f0, .int .u32 b.f3.f1, .bool b.f3.f2, .int .i64 b.f3.f3, .slice A8 b.f3.f4.length c8]) rfl rfl Xgb_1.out rfl (by kernel_rfl) rfl rfl rfl ?_;intro w2 hx hT;have HB_2:=Lib.hid (hT.below HB_1.out HB_1.out.size (fun k hk => by rw [hk];exact LO_HB_gb.out));have X_2:=Lib.hid (hT.blk X_1.out NE_p_gb.out);have HW_2:=Lib.hid (hT.below HW_1.out HW_1.out.size (fun k hk => by rw [hk];exact LO_HW_gb.out));have Xgb_2:=Lib.hid hx;clear hx hT))
   clear k0 k1 k2 k3 k4 k5 k6 k7
   have y0 : w2.cell? ⟨gb,0,none⟩ = some (.int .i64 b.f0):=blk_cell Xgb_2.out 0
   have y1 : w2.cell? ⟨gb,1,none⟩ = some (.int .i64 b.f1):=blk_cell Xgb_2.out 1
   have y2 : w2.cell? ⟨gb,2,none⟩ = some (.int .i64 b.f2):=blk_cell Xgb_2.out 2
   have y3 : w2.cell? ⟨gb,3,none⟩ = some (.bool b.f3.f0):=blk_cell Xgb_2.out 3
   have y4 : w2.cell? ⟨gb,4,none⟩ = some (.int .u32 b.f3.f1):=blk_cell Xgb_2.out 4
   have y5 : w2.cell? ⟨gb,5,none⟩ = some (.bool b.f3.f2):=blk_cell Xgb_2.out 5
   have y6 : w2.cell? ⟨gb,6,none⟩ = some (.int .i64 b.f3.f3):=blk_cell Xgb_2.out 6
   have y7 : w2.cell? ⟨gb,7,none⟩ = some (.slice A8 b.f3.f4.length c8):=blk_cell Xgb_2.out 7
   by_cases q : b.f0 = 1
   rotate_left
   ·have e2 : (b.f0 == 1) = false:=beq_eq_false_iff_ne.2 q
    have HP : Hid ((bxAt h.bs i).f0 ≠ 1):=Lib.hid (by rw [← HBX.out];exact q)
    clear q
    go_wp2_with (fail)
    go_roundw
    case rel => exact ⟨i + 1,av,_,HLT.out,rfl,rfl,by rw [HN.out];rfl,⟨HF.out⟩,⟨HN0.out.skip HP.out⟩,⟨X_2.out⟩,⟨HB_2.out⟩⟩
    case measure => rw [HN.out];have:=HLT.out;simp [intOf];omega
   have e2 : (b.f0 == 1) = true:=beq_iff_eq.2 q
   have HP : Hid ((bxAt h.bs i).f0 = 1):=Lib.hid (by rw [← HBX.out];exact q)
   clear q
   obtain ⟨sv,hsv⟩ : ∃ sv,sv = arbB b:=⟨_,rfl⟩
   have HSV:=Lib.hid hsv
   clear hsv
   rcases HN0.out.cases with e | ⟨j,hj,e,hw⟩
   ·subst e
    go_upto_region 8 with (first | (go_at_call 122;refine (impl_Arb.calls b.f3.f0 b.f3.f1 b.f3.f2 b.f3.f3 A8 c8 b.f3.f4 sv w2 (Kd.C_below G8.out HW_2.out) L8.out (by rw [HSV.out];exact implArb_eq HQ.out)).mono ?_;rintro e w3 ⟨rfl,hb⟩;have HB_3:=Lib.hid (below_then HB_2.out HB_2.out.size hb);have X_3:=Lib.hid (blk_below X_2.out hb);have HW_3:=Lib.hid (below_then HW_2.out HW_2.out.size hb);have Xgb_3:=Lib.hid (blk_below Xgb_2.out hb);clear hb))
    clear y0 y1 y2 y3 y4 y5 y6 y7
    have y2 : w3.cell? ⟨gb,2,none⟩ = some (.int .i64 b.f2):=blk_cell Xgb_3.out 2
    go_wp2_with (fail)
    go_quiet (fail)
    go_wp2_with (fail)
    go_roundw
    case rel => exact ⟨i + 1,(i : Int),_,HLT.out,rfl,rfl,by rw [HN.out];rfl,⟨fun t ht => by rw [show t = i from by omega, ← HBX.out, ← HSV.out]⟩,⟨HN0.out.first rfl HP.out⟩,⟨blk_below X_3.out (below_drewN' (Below.refl _ _) _)⟩,⟨below_drewN' HB_3.out _⟩⟩
    case measure => rw [HN.out];have:=HLT.out;simp [intOf];omega
   ·subst e
    have HJ:=Lib.hid hj
    have HWJ:=Lib.hid hw
    clear hw
    obtain ⟨x,hx⟩ : ∃ x,x = bxAt h.bs j:=⟨_,rfl⟩
    have HXE:=Lib.hid hx
    have HFV : Hid (fv = arbB x):=Lib.hid (by rw [hx];exact HF.out j rfl)
    clear hx
    go_upto_region 8 with (first | (go_at_call 122;refine (impl_Arb.calls b.f3.f0 b.f3.f1 b.f3.f2 b.f3.f3 A8 c8 b.f3.f4 sv w2 (Kd.C_below G8.out HW_2.out) L8.out (by rw [HSV.out];exact implArb_eq HQ.out)).mono ?_;rintro e w3 ⟨rfl,hb⟩;have HB_3:=Lib.hid (below_then HB_2.out HB_2.out.size hb);have X_3:=Lib.hid (blk_below X_2.out hb);have HW_3:=Lib.hid (below_then HW_2.out HW_2.out.size hb);have Xgb_3:=Lib.hid (blk_below Xgb_2.out hb);clear hb))
    clear y0 y1 y2 y3 y4 y5 y6 y7
    have y2 : w3.cell? ⟨gb,2,none⟩ = some (.int .i64 b.f2):=blk_cell Xgb_3.out 2
    have n5 : w3.cell? ⟨p,5,none⟩ = some (.slice (some ad) h.bs.length cb):=blk_cell X_3.out 5
    obtain ⟨ad2,A9,c9,ea2,k0,k1,k2,k3,k4,k5,k6,k7,l9,g9⟩:=at_T87 (Kd.C_below RB.out HB_3.out) (j : Int) (by omega) (by have:=HLT.out;omega)
    cases ea2
    rw [Int.toNat_natCast] at k2
    clear k0 k1 k3 k4 k5 k6 k7 l9 g9
    have hk : rd_T87 h.bs (j : Int) = x:=HXE.out.symm
    rw [hk] at k2
    clear hk
    have p6 : (0 ≤ (j : Int)) = True:=eq_true (by omega)
    have q6 : ((j : Int) < (h.bs.length : Int)) = True:=eq_true (by have:=HLT.out;omega)
    have qm : (j < h.bs.length) = True:=eq_true (by have:=HLT.out;omega)
    have d6 : decide ((j : Int) < 0) = false:=decide_eq_false (by omega)
    clear hj
    cases lt : Op.bytesLess sv.toList fv.toList with
    | true =>
     have HLS : Hid (Less (bxAt h.bs i) (bxAt h.bs j)):=Lib.hid (by rw [← HBX.out, ← HXE.out];unfold Less;rw [← HSV.out, ← HFV.out];exact .inl lt)
     go_wp2_with (fail)
     go_quiet (fail)
     go_wp2_with (fail)
     go_roundw
     case rel => exact ⟨i + 1,(i : Int),_,HLT.out,rfl,rfl,by rw [HN.out];rfl,⟨fun t ht => by rw [show t = i from by omega, ← HBX.out, ← HSV.out]⟩,⟨HN0.out.new HP.out HLS.out⟩,⟨blk_below X_3.out (below_drewN' (Below.refl _ _) _)⟩,⟨below_drewN' HB_3.out _⟩⟩
     case measure => rw [HN.out];have:=HLT.out;simp [intOf];omega
    | false =>
     by_cases es : sv.toList = fv.toList
     rotate_left
     ·have HLS : Hid (¬ Less (bxAt h.bs i) (bxAt h.bs j)):=Lib.hid (by rw [← HBX.out, ← HXE.out];unfold Less;rw [← HSV.out, ← HFV.out];rintro (c | ⟨c,_⟩);rw [lt] at c;cases c;exact es c)
      have eb : (sv.toList == fv.toList) = false:=beq_eq_false_iff_ne.2 es
      clear es
      go_wp2_with (fail)
      go_quiet (fail)
      go_wp2_with (fail)
      go_roundw
      case rel => exact ⟨i + 1,(j : Int),_,HLT.out,rfl,rfl,by rw [HN.out];rfl,⟨fun t ht => by rw [show t = j from by omega, ← HXE.out, ← HFV.out]⟩,⟨HN0.out.keep HP.out HLS.out (HU.out i j HJ.out HLT.out (by unfold Live;rw [HP.out];decide) (by unfold Live;rw [HWJ.out];decide))⟩,⟨blk_below X_3.out (below_drewN' (Below.refl _ _) _)⟩,⟨below_drewN' HB_3.out _⟩⟩
      case measure => rw [HN.out];have:=HLT.out;simp [intOf];omega
     by_cases s2 : b.f2 < x.f2
     ·have HLS : Hid (Less (bxAt h.bs i) (bxAt h.bs j)):=Lib.hid (by rw [← HBX.out, ← HXE.out];unfold Less;rw [← HSV.out, ← HFV.out];exact .inr ⟨es,s2⟩)
      have eb : (sv.toList == fv.toList) = true:=beq_iff_eq.2 es
      have d2 : decide (b.f2 < x.f2) = true:=decide_eq_true s2
      clear es s2
      go_wp2_with (fail)
      go_quiet (fail)
      go_wp2_with (fail)
      go_roundw
      case rel => exact ⟨i + 1,(i : Int),_,HLT.out,rfl,rfl,by rw [HN.out];rfl,⟨fun t ht => by rw [show t = i from by omega, ← HBX.out, ← HSV.out]⟩,⟨HN0.out.new HP.out HLS.out⟩,⟨blk_below X_3.out (below_drewN' (Below.refl _ _) _)⟩,⟨below_drewN' HB_3.out _⟩⟩
      case measure => rw [HN.out];have:=HLT.out;simp [intOf];omega
     have HLS : Hid (¬ Less (bxAt h.bs i) (bxAt h.bs j)):=Lib.hid (by rw [← HBX.out, ← HXE.out];unfold Less;rw [← HSV.out, ← HFV.out];rintro (c | ⟨_,c⟩);rw [lt] at c;cases c;exact s2 c)
     have eb : (sv.toList == fv.toList) = true:=beq_iff_eq.2 es
     have d2 : decide (b.f2 < x.f2) = false:=decide_eq_false s2
     clear es s2
     go_wp2_with (fail)
     go_quiet (fail)
     go_wp2_with (fail)
     go_roundw
     case rel => exact ⟨i + 1,(j : Int),_,HLT.out,rfl,rfl,by rw [HN.out];rfl,⟨fun t ht => by rw [show t = j from by omega, ← HXE.out, ← HFV.out]⟩,⟨HN0.out.keep HP.out HLS.out (HU.out i j HJ.out HLT.out (by unfold Live;rw [HP.out];decide) (by unfold Live;rw [HWJ.out];decide))⟩,⟨blk_below X_3.out (below_drewN' (Below.refl _ _) _)⟩,⟨below_drewN' HB_3.out _⟩⟩
     case measure => rw [HN.out];have:=HLT.out;simp [intOf];omega
  ·have hii : i = h.bs.length:=by omega
   subst hii
   have b2 : decide ((h.bs.length : Int) < (h.bs.length : Int)) = false:=decide_eq_false (by omega)
   go_wp2_with (fail)
   go_ret
   exact ⟨by rw [HRF.out.uniq HN0.out];rfl,HB.out⟩
theorem specArb_v (b : S87) (hq : 0 ≤ b.f3.f1 ∧ okBytes b.f3.f4 = true) (s : ByteArray) (hs : s = arbB b) (w : World) (A : Option Addr) (c : Nat) (hr : Kd.C (Kd.int .u8) w A b.f3.f4.length b.f3.f4) (hc : b.f3.f4.length ≤ c) :
  Calls Try.prog 26 #[.agg #[.bool b.f3.f0, .int .u32 b.f3.f1, .bool b.f3.f2, .int .i64 b.f3.f3, .slice A b.f3.f4.length c]] w fun e w' => e = .returned (.string s) ∧ Below w.heap.size w w':=by
 obtain ⟨k,hk⟩:=(specArb_ev (e:=b.f3.f0) (r:=b.f3.f2) (d:=b.f3.f3) hq).rounds
 exact spec_Arb.calls k b.f3.f0 b.f3.f1 b.f3.f2 b.f3.f3 A c b.f3.f4 s w hr hc (by rw [hs];exact hk)
set_option maxRecDepth 100000 in
set_option maxHeartbeats 8000000 in
theorem l3before_v (h : HV) (w : World) (C : List Value) (hR : HRead w h C) (hl : h.bs.length ≤ 10000000) (hq : ∀ y ∈ h.bs,0 ≤ y.f3.f1 ∧ okBytes y.f3.f4 = true) (i j : Nat) (hi : i < h.bs.length) (hj : j < h.bs.length) (o : Bool) (ho : o = true ↔ Less (bxAt h.bs i) (bxAt h.bs j)) :
  Calls Try.prog 129 #[.agg ⟨C⟩, .int .i64 (i : Int), .int .i64 (j : Int)] w fun e w' => e = .returned (.bool o) ∧ Below w.heap.size w w':=by
 obtain ⟨Af,cf,Ab,cb,Aq,cq,Ae,ce,rfl,_,_,rb,lb,_,_,_,_⟩:=hR
 have RB:=Lib.hid rb
 have HO:=Lib.hid ho
 have HI:=Lib.hid hi
 have HJ:=Lib.hid hj
 have HL:=Lib.hid hl
 obtain ⟨x,hx⟩ : ∃ x,x = bxAt h.bs i:=⟨_,rfl⟩
 obtain ⟨y,hy⟩ : ∃ y,y = bxAt h.bs j:=⟨_,rfl⟩
 have HQx : Hid (0 ≤ x.f3.f1 ∧ okBytes x.f3.f4 = true):=Lib.hid (by rw [hx];exact hq _ (List.mem_of_getElem? (getD_at h.bs i z87 hi)))
 have HQy : Hid (0 ≤ y.f3.f1 ∧ okBytes y.f3.f4 = true):=Lib.hid (by rw [hy];exact hq _ (List.mem_of_getElem? (getD_at h.bs j z87 hj)))
 have HXx:=Lib.hid hx
 have HXy:=Lib.hid hy
 obtain ⟨sx,hsx⟩ : ∃ s,s = arbB x:=⟨_,rfl⟩
 obtain ⟨sy,hsy⟩ : ∃ s,s = arbB y:=⟨_,rfl⟩
 have HSX:=Lib.hid hsx
 have HSY:=Lib.hid hsy
 have HO2 : Hid (o = true ↔ Op.bytesLess sx.toList sy.toList = true ∨ (sx.toList = sy.toList ∧ x.f2 < y.f2)):=Lib.hid (by rw [ho, ← hx, ← hy,hsx,hsy];exact Iff.rfl)
 have pi : (0 ≤ (i : Int)) = True:=eq_true (by omega)
 have qi : ((i : Int) < (h.bs.length : Int)) = True:=eq_true (by omega)
 have ni : (i < h.bs.length) = True:=eq_true hi
 have pj : (0 ≤ (j : Int)) = True:=eq_true (by omega)
 have qj : ((j : Int) < (h.bs.length : Int)) = True:=eq_true (by omega)
 have nj : (j < h.bs.length) = True:=eq_true hj
 clear rb lb ho hi hj hl hq hx hy hsx hsy
 have HB_0 : Hid (Below w.heap.size w w):=Lib.hid (Below.refl _ _)
 go_enter Try.func129,Try.ntmps129
 go_upto_region 1 with (first | ((with_reducible refine gate_dst (N:=3) rfl ?_);refine box_event ?hg (N:=3) ?hd (cs:=⟨hostC h (.slice Af h.fs.length cf) (.slice Ab h.bs.length cb) (.slice Aq h.fr.length cq) (.slice Ae h.ev.length ce)⟩) (t:=32) ?hr ?_;(case hd => rfl);(case hg => rfl);(case hr => first | (go_simp;done) | (go_simp;rfl));intro g1 hg w1 hbox hb;have LO_HB_g1 : Hid (w.heap.size ≤ g1):=Lib.hid (by rw [hg];exact HB_0.out.size);have HEg1:=Lib.hid hg;have HB_1:=Lib.hid (below_then HB_0.out HB_0.out.size hb);have Xg1_1:=Lib.hid hbox;clear hg hbox hb))
 obtain ⟨ad0,_,_,ea0,_⟩:=at_T87 (Kd.C_below RB.out HB_1.out) (i : Int) (by omega) (by have:=HI.out;omega)
 cases ea0
 obtain ⟨ad1,A8,c8,ea1,k0,k1,k2,k3,k4,k5,k6,k7,l8,g8⟩:=at_T87 (Kd.C_below RB.out HB_1.out) (i : Int) (by omega) (by have:=HI.out;omega)
 cases ea1
 rw [Int.toNat_natCast] at k0 k1 k2 k3 k4 k5 k6 k7
 have hk : rd_T87 h.bs (i : Int) = x:=HXx.out.symm
 rw [hk] at k0 k1 k2 k3 k4 k5 k6 k7 l8 g8
 clear hk
 have y5 : w1.cell? ⟨g1,5,none⟩ = some (.slice (some ad0) h.bs.length cb):=blk_cell Xg1_1.out 5
 clear k0 k1 k2
 have LA:=Lib.hid l8
 have GA:=Lib.hid g8
 clear l8 g8
 go_upto_region 2 with (first | (go_at_call 26;refine (specArb_v x HQx.out sx HSX.out w1 A8 c8 GA.out LA.out).mono ?_;rintro e w2 ⟨rfl,hb⟩;have HB_2:=Lib.hid (below_then HB_1.out HB_1.out.size hb);have Xg1_2:=Lib.hid (blk_below Xg1_1.out hb);clear hb))
 clear y5 k3 k4 k5 k6 k7 GA LA
 obtain ⟨ad2,B8,d8,ea2,k0,k1,k2,k3,k4,k5,k6,k7,l8,g8⟩:=at_T87 (Kd.C_below RB.out HB_2.out) (j : Int) (by omega) (by have:=HJ.out;omega)
 cases ea2
 rw [Int.toNat_natCast] at k0 k1 k2 k3 k4 k5 k6 k7
 have hk : rd_T87 h.bs (j : Int) = y:=HXy.out.symm
 rw [hk] at k0 k1 k2 k3 k4 k5 k6 k7 l8 g8
 clear hk
 have y5 : w2.cell? ⟨g1,5,none⟩ = some (.slice (some ad0) h.bs.length cb):=blk_cell Xg1_2.out 5
 clear k0 k1 k2
 have LA:=Lib.hid l8
 have GA:=Lib.hid g8
 clear l8 g8
 go_upto_region 3 with (first | (go_at_call 26;refine (specArb_v y HQy.out sy HSY.out w2 B8 d8 GA.out LA.out).mono ?_;rintro e w3 ⟨rfl,hb⟩;have HB_3:=Lib.hid (below_then HB_2.out HB_2.out.size hb);have Xg1_3:=Lib.hid (blk_below Xg1_2.out hb);clear hb))
 clear y5 k3 k4 k5 k6 k7 GA LA
 by_cases es : sx.toList = sy.toList
 rotate_left
 ·have eb : (sx.toList == sy.toList) = false:=beq_eq_false_iff_ne.2 es
  have HV : Hid (Op.bytesLess sx.toList sy.toList = o):=Lib.hid (by have h1:=HO2.out;cases o with | true => (rcases h1.1 rfl with c | ⟨c,_⟩;exact c;exact absurd c es) | false => exact Bool.eq_false_iff.2 (fun c => by have:=h1.2 (.inl c);cases this))
  clear es
  obtain ⟨lv,hlv⟩ : ∃ lv,lv = Op.bytesLess sx.toList sy.toList:=⟨_,rfl⟩
  rw [← hlv] at HV
  have lt:=hlv.symm
  clear hlv
  go_wp2_with (fail)
  go_ret
  exact ⟨by rw [HV.out];rfl,HB_3.out⟩
 have eb : (sx.toList == sy.toList) = true:=beq_iff_eq.2 es
 have lt : Op.bytesLess sx.toList sy.toList = false:=by rw [es];exact bl_irr _
 have HV : Hid (decide (x.f2 < y.f2) = o):=Lib.hid (by have h1:=HO2.out;cases o with | true => (rcases h1.1 rfl with c | ⟨_,c⟩;rw [lt] at c;cases c;exact decide_eq_true c) | false => exact decide_eq_false (fun c => by have:=h1.2 (.inr ⟨es,c⟩);cases this))
 clear es
 obtain ⟨lv,hlv⟩ : ∃ lv,lv = decide (x.f2 < y.f2):=⟨_,rfl⟩
 rw [← hlv] at HV
 have d2:=hlv.symm
 clear hlv
 obtain ⟨ad3,A9,c9,ea3,k0,k1,k2,k3,k4,k5,k6,k7,l8,g8⟩:=at_T87 (Kd.C_below RB.out HB_3.out) (i : Int) (by omega) (by have:=HI.out;omega)
 cases ea3
 rw [Int.toNat_natCast] at k0 k1 k2 k3 k4 k5 k6 k7
 have hk : rd_T87 h.bs (i : Int) = x:=HXx.out.symm
 rw [hk] at k0 k1 k2 k3 k4 k5 k6 k7 l8 g8
 clear hk
 clear k0 k1 k3 k4 k5 k6 k7 l8 g8
 obtain ⟨ad4,B9,d9,ea4,m0,m1,m2,m3,m4,m5,m6,m7,l8,g8⟩:=at_T87 (Kd.C_below RB.out HB_3.out) (j : Int) (by omega) (by have:=HJ.out;omega)
 cases ea4
 rw [Int.toNat_natCast] at m0 m1 m2 m3 m4 m5 m6 m7
 have hk : rd_T87 h.bs (j : Int) = y:=HXy.out.symm
 rw [hk] at m0 m1 m2 m3 m4 m5 m6 m7 l8 g8
 clear hk
 clear m0 m1 m3 m4 m5 m6 m7 l8 g8
 have y5 : w3.cell? ⟨g1,5,none⟩ = some (.slice (some ad0) h.bs.length cb):=blk_cell Xg1_3.out 5
 go_wp2_with (fail)
 go_quiet (fail)
 go_wp2_with (fail)
 go_ret
 exact ⟨by rw [HV.out];rfl,below_drewN' HB_3.out _⟩
theorem best_i {bs : List S87} {n i : Nat} {r : Int} (H : IsBest bs n r) (e : r = (i : Int)) : ∀ t,t < n → t ≠ i → (bxAt bs t).f0 = 1 → Less (bxAt bs i) (bxAt bs t):=by
 rcases H with ⟨e2,_⟩ | ⟨s,hs,e2,_,h4⟩
 ·omega
 ·have e3 : s = i:=by omega
  rw [e3] at h4
  exact h4
set_option maxRecDepth 100000 in
set_option maxHeartbeats 8000000 in
theorem l3best_v (h : HV) (w : World) (C : List Value) (hR : HRead w h C) (hl : h.bs.length ≤ 10000000) (hq : ∀ y ∈ h.bs,0 ≤ y.f3.f1 ∧ okBytes y.f3.f4 = true) (r : Int) (hr : IsBest h.bs h.bs.length r) :
  Calls Try.prog 87 #[.agg ⟨C⟩] w fun e w' => e = .returned (.int .i64 r) ∧ Below w.heap.size w w':=by
 have HRD:=Lib.hid hR
 obtain ⟨Af,cf,Ab,cb,Aq,cq,Ae,ce,rfl,_,_,rb,lb,_,_,_,_⟩:=hR
 have RB:=Lib.hid rb
 have HRF:=Lib.hid hr
 have HL:=Lib.hid hl
 have HQQ:=Lib.hid hq
 clear rb lb hr hl hq
 have HB_0 : Hid (Below w.heap.size w w):=Lib.hid (Below.refl _ _)
 have hu32:=Lib.hid Try.underlying32
 go_enter Try.func87,Try.ntmps87
 go_upto_region 1 with (first | ((with_reducible refine gate_dst (N:=1) rfl ?_);refine box_event ?hg (N:=1) ?hd (cs:=⟨hostC h (.slice Af h.fs.length cf) (.slice Ab h.bs.length cb) (.slice Aq h.fr.length cq) (.slice Ae h.ev.length ce)⟩) (t:=32) ?hr ?_;(case hd => rfl);(case hg => rfl);(case hr => first | (go_simp;done) | (go_simp;rfl));intro g1 hg w1 hbox hb;have LO_HB_g1 : Hid (w.heap.size ≤ g1):=Lib.hid (by rw [hg];exact HB_0.out.size);have HEg1:=Lib.hid hg;have HB_1:=Lib.hid (below_then HB_0.out HB_0.out.size hb);have Xg1_1:=Lib.hid hbox;clear hg hbox hb))
 go_wp2_with (fail)
 go_loopw [3] (fun v3 wr => ∃ i : Nat,i ≤ h.bs.length ∧ v3 = .int .i64 i ∧ Aside0 (∀ t : Nat,t < i → (bxAt h.bs t).f0 = 1 → r ≠ (t : Int)) ∧ Aside0 (wr.heap[g1]? = some (.cells ⟨hostC h (.slice Af h.fs.length cf) (.slice Ab h.bs.length cb) (.slice Aq h.fr.length cq) (.slice Ae h.ev.length ce)⟩ 32 (0,0))) ∧ Aside0 (Below w.heap.size w wr)) (fun v3 _ => h.bs.length - (intOf v3).toNat)
 case atStart => exact ⟨0,Nat.zero_le _,rfl,⟨fun j hj => absurd hj (Nat.not_lt_zero _)⟩,⟨Xg1_1.out⟩,⟨HB_1.out⟩⟩
 case round =>
  clear Xg1_1 HB_1
  obtain ⟨i,hi,rfl,HN0,HX,HB⟩:=hrel
  have y5 : wr.cell? ⟨g1,5,none⟩ = some (.slice Ab h.bs.length cb):=blk_cell HX.out 5
  by_cases hlt : i < h.bs.length
  ·have b2 : decide ((i : Int) < (h.bs.length : Int)) = true:=decide_eq_true (by omega)
   have p5 : (0 ≤ (i : Int)) = True:=eq_true (by omega)
   have q5 : ((i : Int) < (h.bs.length : Int)) = True:=eq_true (by omega)
   have qn : (i < h.bs.length) = True:=eq_true hlt
   have hn : wrap64 ((i : Int) + 1) = (i : Int) + 1:=by have:=HL.out;unfold wrap64;omega
   have HLT:=Lib.hid hlt
   have HI:=Lib.hid hi
   have HN:=Lib.hid hn
   obtain ⟨ad,A8,c8,ea,k0,k1,k2,k3,k4,k5,k6,k7,l8,g8⟩:=at_T87 (Kd.C_below RB.out HB.out) (i : Int) (by omega) (by omega)
   subst ea
   clear hlt hi
   rw [Int.toNat_natCast] at k0 k1 k2 k3 k4 k5 k6 k7
   obtain ⟨b,hb⟩ : ∃ b,b = rd_T87 h.bs (i : Int):=⟨_,rfl⟩
   rw [← hb] at k0 k1 k2 k3 k4 k5 k6 k7 l8 g8
   have HBX : Hid (b = bxAt h.bs i):=Lib.hid hb
   clear hb l8 g8 k1 k2 k3 k4 k5 k6 k7
   by_cases q : b.f0 = 1
   rotate_left
   ·have e2 : (b.f0 == 1) = false:=beq_eq_false_iff_ne.2 q
    have e3 : (b.f0 != 1) = true:=by rw [bne,e2];rfl
    have HP : Hid ((bxAt h.bs i).f0 ≠ 1):=Lib.hid (by rw [← HBX.out];exact q)
    clear q
    go_wp2_with (fail)
    go_roundw
    case rel => exact ⟨i + 1,HLT.out,by rw [HN.out];rfl,⟨fun t ht hw => by by_cases e : t = i;rw [e] at hw ⊢;exact absurd hw HP.out;exact HN0.out t (by omega) hw⟩,⟨HX.out⟩,⟨HB.out⟩⟩
    case measure => rw [HN.out];have:=HLT.out;simp [intOf];omega
   have e2 : (b.f0 == 1) = true:=beq_iff_eq.2 q
   have e3 : (b.f0 != 1) = false:=by rw [bne,e2];rfl
   have HP : Hid ((bxAt h.bs i).f0 = 1):=Lib.hid (by rw [← HBX.out];exact q)
   clear q
   go_wp2_with (fail)
   clear y5 k0 e2 e3 b2 p5 q5 qn hn
   go_loopw [4,5] (fun v4 v5 wr => ∃ (j : Nat) (fb : Bool),j ≤ h.bs.length ∧ v4 = .bool fb ∧ v5 = .int .i64 j ∧ Aside0 (fb = true ↔ ∀ t,t < j → t ≠ i → (bxAt h.bs t).f0 = 1 → Less (bxAt h.bs i) (bxAt h.bs t)) ∧ Aside0 (wr.heap[g1]? = some (.cells ⟨hostC h (.slice Af h.fs.length cf) (.slice (some ad) h.bs.length cb) (.slice Aq h.fr.length cq) (.slice Ae h.ev.length ce)⟩ 32 (0,0))) ∧ Aside0 (Below w.heap.size w wr)) (fun _ v5 _ => h.bs.length - (intOf v5).toNat)
   case atStart => exact ⟨0,true,Nat.zero_le _,rfl,rfl,⟨fun _ t ht => absurd ht (Nat.not_lt_zero _),fun _ => rfl⟩,⟨HX.out⟩,⟨HB.out⟩⟩
   case round =>
    clear HX HB
    obtain ⟨j,fb,hj,rfl,rfl,HT,HX,HB⟩:=hrel
    have y5 : wr.cell? ⟨g1,5,none⟩ = some (.slice (some ad) h.bs.length cb):=blk_cell HX.out 5
    by_cases hlt : j < h.bs.length
    ·have HLJ:=Lib.hid hlt
     have b2 : decide ((j : Int) < (h.bs.length : Int)) = true:=decide_eq_true (by omega)
     have p5 : (0 ≤ (j : Int)) = True:=eq_true (by omega)
     have q5 : ((j : Int) < (h.bs.length : Int)) = True:=eq_true (by omega)
     have qn : (j < h.bs.length) = True:=eq_true hlt
     have hn : wrap64 ((j : Int) + 1) = (j : Int) + 1:=by have:=HL.out;unfold wrap64;omega
     have HNJ:=Lib.hid hn
     clear hj hlt
     obtain ⟨x,hx⟩ : ∃ x,x = bxAt h.bs j:=⟨_,rfl⟩
     have HXx:=Lib.hid hx
     clear hx
     obtain ⟨ad2,B8,d8,ea2,k0,k1,k2,k3,k4,k5,k6,k7,l8,g8⟩:=at_T87 (Kd.C_below RB.out HB.out) (j : Int) (by omega) (by have:=HLJ.out;omega)
     cases ea2
     rw [Int.toNat_natCast] at k0 k1 k2 k3 k4 k5 k6 k7
     have hk : rd_T87 h.bs (j : Int) = x:=HXx.out.symm
     rw [hk] at k0 k1 k2 k3 k4 k5 k6 k7 l8 g8
     clear hk
     clear k1 k2 k3 k4 k5 k6 k7 l8 g8
     by_cases c : j = i
     ·have cn : ((j : Int) == (i : Int)) = true:=beq_iff_eq.2 (by omega)
      have cn2 : ((j : Int) != (i : Int)) = false:=by rw [bne,cn];rfl
      have CE:=Lib.hid c
      clear c
      go_wp2_with (fail)
      go_roundw
      case rel => exact ⟨j + 1,fb,HLJ.out,rfl,by rw [HNJ.out];rfl,⟨HT.out.trans ⟨fun q t ht hne hww => by by_cases e : t = j;rw [e] at hne hww ⊢;exact absurd CE.out hne;exact q t (by omega) hne hww,fun q t ht hne hww => q t (by omega) hne hww⟩⟩,⟨HX.out⟩,⟨HB.out⟩⟩
      case measure => rw [HNJ.out];have:=HLJ.out;simp [intOf];omega
     have cn : ((j : Int) == (i : Int)) = false:=beq_eq_false_iff_ne.2 (by omega)
     have cn2 : ((j : Int) != (i : Int)) = true:=by rw [bne,cn];rfl
     have CE:=Lib.hid c
     clear c
     by_cases q : x.f0 = 1
     rotate_left
     ·have e2 : (x.f0 == 1) = false:=beq_eq_false_iff_ne.2 q
      have HPx : Hid ((bxAt h.bs j).f0 ≠ 1):=Lib.hid (by rw [← HXx.out];exact q)
      clear q
      go_wp2_with (fail)
      go_roundw
      case rel => exact ⟨j + 1,fb,HLJ.out,rfl,by rw [HNJ.out];rfl,⟨HT.out.trans ⟨fun q t ht hne hww => by by_cases e : t = j;rw [e] at hne hww ⊢;exact absurd hww HPx.out;exact q t (by omega) hne hww,fun q t ht hne hww => q t (by omega) hne hww⟩⟩,⟨HX.out⟩,⟨HB.out⟩⟩
      case measure => rw [HNJ.out];have:=HLJ.out;simp [intOf];omega
     have e2 : (x.f0 == 1) = true:=beq_iff_eq.2 q
     have HPx : Hid ((bxAt h.bs j).f0 = 1):=Lib.hid (by rw [← HXx.out];exact q)
     clear q
     rcases Classical.em (Less (bxAt h.bs i) (bxAt h.bs j)) with c | c
     ·have HC:=Lib.hid c
      clear c
      go_wp2_with (first | ((with_reducible refine gate_dst (N:=40) rfl ?_);refine gate_guard (by rfl) ?_;refine load_all rfl rfl (g:=g1) rfl HX.out hu32.out (by kernel_rfl) ?_) | (go_at_call 129;refine (l3before_v h wr _ (HRD.out.below HB.out) HL.out HQQ.out i j HLT.out HLJ.out true ⟨fun _ => HC.out,fun _ => rfl⟩).mono ?_;rintro e w1 ⟨rfl,hb⟩;have HB_1:=Lib.hid (below_then HB.out HB.out.size hb);have X_1:=Lib.hid (blk_below HX.out hb);clear hb))
      go_roundw
      case rel => exact ⟨j + 1,fb,HLJ.out,rfl,by rw [HNJ.out];rfl,⟨HT.out.trans ⟨fun q t ht hne hww => by by_cases e : t = j;rw [e] at hne hww ⊢;exact HC.out;exact q t (by omega) hne hww,fun q t ht hne hww => q t (by omega) hne hww⟩⟩,⟨X_1.out⟩,⟨HB_1.out⟩⟩
      case measure => rw [HNJ.out];have:=HLJ.out;simp [intOf];omega
     ·have HC:=Lib.hid c
      clear c
      go_wp2_with (first | ((with_reducible refine gate_dst (N:=40) rfl ?_);refine gate_guard (by rfl) ?_;refine load_all rfl rfl (g:=g1) rfl HX.out hu32.out (by kernel_rfl) ?_) | (go_at_call 129;refine (l3before_v h wr _ (HRD.out.below HB.out) HL.out HQQ.out i j HLT.out HLJ.out false ⟨fun q => Bool.noConfusion q,fun q => absurd q HC.out⟩).mono ?_;rintro e w1 ⟨rfl,hb⟩;have HB_1:=Lib.hid (below_then HB.out HB.out.size hb);have X_1:=Lib.hid (blk_below HX.out hb);clear hb))
      go_roundw
      case rel => exact ⟨j + 1,false,HLJ.out,rfl,by rw [HNJ.out];rfl,⟨⟨fun q => (by cases q),fun q => absurd (q j (by omega) CE.out HPx.out) HC.out⟩⟩,⟨X_1.out⟩,⟨HB_1.out⟩⟩
      case measure => rw [HNJ.out];have:=HLJ.out;simp [intOf];omega
    ·have hjj : j = h.bs.length:=by omega
     subst hjj
     have b2 : decide ((h.bs.length : Int) < (h.bs.length : Int)) = false:=decide_eq_false (by omega)
     have hn : wrap64 ((i : Int) + 1) = (i : Int) + 1:=HN.out
     cases fb with
     | true =>
      go_wp2_with (fail)
      go_ret
      exact ⟨by rw [HRF.out.at HLT.out HP.out (HT.out.1 (by first | rfl | trivial))];rfl,HB.out⟩
     | false =>
      go_wp2_with (fail)
      go_roundw
      case rel => exact ⟨i + 1,HLT.out,by rw [HN.out];rfl,⟨fun t ht hw => by by_cases e : t = i;rw [e] at hw ⊢;exact fun e => (by have h1:=HT.out.2 (fun t ht hn hw => best_i HRF.out e t ht hn hw);cases h1);exact HN0.out t (by omega) hw⟩,⟨HX.out⟩,⟨HB.out⟩⟩
      case measure => rw [HN.out];have:=HLT.out;simp [intOf];omega
  ·have hii : i = h.bs.length:=by omega
   subst hii
   have b2 : decide ((h.bs.length : Int) < (h.bs.length : Int)) = false:=decide_eq_false (by omega)
   go_wp2_with (fail)
   go_ret
   exact ⟨by rw [HRF.out.none HN0.out];rfl,HB.out⟩
set_option maxRecDepth 100000 in
set_option maxHeartbeats 8000000 in
theorem goodLists_v (h : HV) (o : Bool) (ho : o = true ↔ GoodL h) (w : World) (C : List Value) (hR : HRead w h C) (hS : HSm h) :
  Calls Try.prog 116 #[.agg ⟨C⟩] w fun e w' => e = .returned (.bool o) ∧ Below w.heap.size w w':=by
 obtain ⟨Af,cf,Ab,cb,Aq,cq,Ae,ce,rfl,_,_,_,_,rq,lq,re,le⟩:=hR
 have RQ:=Lib.hid rq
 have RE:=Lib.hid re
 have HO:=Lib.hid ho
 have SM:=Lib.hid hS
 clear rq re ho hS
 have HB_0 : Hid (Below w.heap.size w w):=Lib.hid (Below.refl _ _)
 go_enter Try.func116,Try.ntmps116
 go_upto_region 1 with (first | ((with_reducible refine gate_dst (N:=1) rfl ?_);refine box_event ?hg (N:=1) ?hd (cs:=⟨hostC h (.slice Af h.fs.length cf) (.slice Ab h.bs.length cb) (.slice Aq h.fr.length cq) (.slice Ae h.ev.length ce)⟩) (t:=32) ?hr ?_;(case hd => rfl);(case hg => rfl);(case hr => first | (go_simp;done) | (go_simp;rfl));intro g1 hg w1 hbox hb;have LO_HB_g1 : Hid (w.heap.size ≤ g1):=Lib.hid (by rw [hg];exact HB_0.out.size);have HEg1:=Lib.hid hg;have HB_1:=Lib.hid (below_then HB_0.out HB_0.out.size hb);have Xg1_1:=Lib.hid hbox;clear hg hbox hb))
 have y0 : w1.cell? ⟨g1,0,none⟩ = some (.int .i64 h.cb):=blk_cell Xg1_1.out 0
 have y1 : w1.cell? ⟨g1,1,none⟩ = some (.int .i64 h.cf):=blk_cell Xg1_1.out 1
 have y3 : w1.cell? ⟨g1,3,none⟩ = some (.int .i64 h.ce):=blk_cell Xg1_1.out 3
 have y5 : w1.cell? ⟨g1,5,none⟩ = some (.slice Ab h.bs.length cb):=blk_cell Xg1_1.out 5
 have y6 : w1.cell? ⟨g1,6,none⟩ = some (.slice Aq h.fr.length cq):=blk_cell Xg1_1.out 6
 have y7 : w1.cell? ⟨g1,7,none⟩ = some (.slice Ae h.ev.length ce):=blk_cell Xg1_1.out 7
 by_cases r0 : (h.bs.length : Int) ≠ h.cb
 ·have sr0 : ((h.bs.length : Int) != h.cb) = true:=bne_iff_ne.2 r0
  have R0:=Lib.hid r0
  clear r0
  go_wp2_with (fail)
  go_ret
  exact ⟨by rw [isF HO.out (fun G => R0.out G.nb)];rfl,HB_1.out⟩
 have sr0 : ((h.bs.length : Int) != h.cb) = false:=by rw [Classical.not_not.1 r0];exact bne_self_eq_false _
 have R0:=Lib.hid r0
 clear r0
 by_cases r1 : (h.fr.length : Int) > h.cf
 ·have sr1 : decide ((h.fr.length : Int) > h.cf) = true:=decide_eq_true r1
  have R1:=Lib.hid r1
  clear r1
  go_wp2_with (fail)
  go_ret
  exact ⟨by rw [isF HO.out (fun G => by have:=R1.out;have:=G.nq;omega)];rfl,HB_1.out⟩
 have sr1 : decide ((h.fr.length : Int) > h.cf) = false:=decide_eq_false r1
 have R1:=Lib.hid r1
 clear r1
 by_cases r2 : (h.ev.length : Int) > h.ce
 ·have sr2 : decide ((h.ev.length : Int) > h.ce) = true:=decide_eq_true r2
  have R2:=Lib.hid r2
  clear r2
  go_wp2_with (fail)
  go_ret
  exact ⟨by rw [isF HO.out (fun G => by have:=R2.out;have:=G.ne;omega)];rfl,HB_1.out⟩
 have sr2 : decide ((h.ev.length : Int) > h.ce) = false:=decide_eq_false r2
 have R2:=Lib.hid r2
 clear r2
 go_wp2_with (fail)
 clear y0 y1 y3 y5 y6 y7 sr0 sr1 sr2
 go_loopw [35] (fun v35 wr => ∃ i : Nat,i ≤ h.fr.length ∧ v35 = .int .i64 i ∧ Aside0 (∀ j : Nat,j < i → valF (rd_T45 h.fr (j : Int)) = true) ∧ Aside0 (wr.heap[g1]? = some (.cells ⟨hostC h (.slice Af h.fs.length cf) (.slice Ab h.bs.length cb) (.slice Aq h.fr.length cq) (.slice Ae h.ev.length ce)⟩ 32 (0,0))) ∧ Aside0 (Below w.heap.size w wr)) (fun v35 _ => h.fr.length - (intOf v35).toNat)
 case atStart => exact ⟨0,Nat.zero_le _,rfl,⟨fun j hj => absurd hj (Nat.not_lt_zero _)⟩,⟨Xg1_1.out⟩,⟨HB_1.out⟩⟩
 case round =>
  clear Xg1_1 HB_1
  obtain ⟨i,hi,rfl,HF,HX,HB⟩:=hrel
  by_cases hlt : i < h.fr.length
  ·have b2 : decide ((i : Int) < (h.fr.length : Int)) = true:=decide_eq_true (by omega)
   have p5 : (0 ≤ (i : Int)) = True:=eq_true (by omega)
   have q5 : ((i : Int) < (h.fr.length : Int)) = True:=eq_true (by omega)
   have qn : (i < h.fr.length) = True:=eq_true hlt
   have hn : wrap64 ((i : Int) + 1) = (i : Int) + 1:=by have:=SM.out.l3;unfold wrap64;omega
   have HLT:=Lib.hid hlt
   have HI:=Lib.hid hi
   have HN:=Lib.hid hn
   obtain ⟨ad,A8,c8,ea,k0,k1,k2,k3,k4,l8,g8⟩:=at_T45 (Kd.C_below RQ.out HB.out) (i : Int) (by omega) (by omega)
   subst ea
   clear hlt hi l8 g8
   rw [Int.toNat_natCast] at k0 k1 k2 k3 k4
   obtain ⟨f,hb⟩ : ∃ b,b = rd_T45 h.fr (i : Int):=⟨_,rfl⟩
   rw [← hb] at k0 k1 k2 k3 k4
   have HBX:=Lib.hid hb
   have HD8 : Hid (f.f4.length ≤ 10000000):=Lib.hid (by rw [hb];exact SM.out.d3 _ (List.mem_of_getElem? (getD_at h.fr i z45 HLT.out)))
   clear hb
   go_upto_region 6 with (first | ((with_reducible refine gate_dst (N:=4) rfl ?_);refine box_event ?hg (N:=4) ?hd (cs := #[.bool false, .int .u32 0, .bool false, .int .i64 0, .slice none 0 0]) (t:=45) ?hr ?_;(case hd => rfl);(case hg => rfl);(case hr => first | (go_simp;done) | (go_simp;rfl));intro gb hg w1 hbox hb;have LO_HB_gb : Hid (w.heap.size ≤ gb):=Lib.hid (by rw [hg];exact HB.out.size);have NE_g1_gb : Hid (g1 ≠ gb):=Lib.hid (fun e => by have h1:=blk_lt HX.out;omega);have HEgb:=Lib.hid hg;have HB_1:=Lib.hid (below_then HB.out HB.out.size hb);have X_1:=Lib.hid (blk_below HX.out hb);have Xgb_1:=Lib.hid hbox;clear hg hbox hb) | ((with_reducible refine gate_store (t:=45) (p:=4) rfl ?_);refine store_box rfl rfl rfl (g:=gb) (j:=0) (cs := #[.bool false, .int .u32 0, .bool false, .int .i64 0, .slice none 0 0]) (cs':=⟨[.bool f.f0, .int .u32 f.f1, .bool f.f2, .int .i64 f.f3, .slice A8 f.f4.length c8]⟩) (seg := [.bool f.f0, .int .u32 f.f1, .bool f.f2, .int .i64 f.f3, .slice A8 f.f4.length c8]) rfl rfl Xgb_1.out rfl (by kernel_rfl) rfl rfl rfl ?_;intro w2 hx hT;have HB_2:=Lib.hid (hT.below HB_1.out HB_1.out.size (fun k hk => by rw [hk];exact LO_HB_gb.out));have X_2:=Lib.hid (hT.blk X_1.out NE_g1_gb.out);have Xgb_2:=Lib.hid hx;clear hx hT))
   clear k0 k1 k2 k3 k4
   cases q3 : valF f with
   | false =>
    have Q3:=Lib.hid q3
    clear q3
    go_wp2_with (first | ((with_reducible refine gate_dst (N:=39) rfl ?_);refine load_all rfl rfl (g:=gb) rfl Xgb_2.out Try.underlying45 (by kernel_rfl) ?_) | (go_at_call 119;refine (validFrame_at f A8 c8 w2 false Q3.out HD8.out).mono ?_;rintro e w3 ⟨rfl,hb⟩;have HB_3:=Lib.hid (below_then HB_2.out HB_2.out.size hb);have X_3:=Lib.hid (blk_below X_2.out hb);have Xgb_3:=Lib.hid (blk_below Xgb_2.out hb);clear hb))
    go_ret
    exact ⟨by rw [isF HO.out (fun G => by have h1:=G.fr i HLT.out;rw [← HBX.out] at h1;rw [Q3.out] at h1;cases h1)];rfl,HB_3.out⟩
   | true =>
    have Q3:=Lib.hid q3
    clear q3
    go_wp2_with (first | ((with_reducible refine gate_dst (N:=39) rfl ?_);refine load_all rfl rfl (g:=gb) rfl Xgb_2.out Try.underlying45 (by kernel_rfl) ?_) | (go_at_call 119;refine (validFrame_at f A8 c8 w2 true Q3.out HD8.out).mono ?_;rintro e w3 ⟨rfl,hb⟩;have HB_3:=Lib.hid (below_then HB_2.out HB_2.out.size hb);have X_3:=Lib.hid (blk_below X_2.out hb);have Xgb_3:=Lib.hid (blk_below Xgb_2.out hb);clear hb))
    go_roundw
    case rel => exact ⟨i + 1,HLT.out,by rw [HN.out];rfl,⟨fun j hj => by by_cases e : j = i;subst e;rw [← HBX.out];exact Q3.out;exact HF.out j (by omega)⟩,⟨X_3.out⟩,⟨HB_3.out⟩⟩
    case measure => rw [HN.out];have:=HLT.out;simp [intOf];omega
  ·have hii : i = h.fr.length:=by omega
   subst hii
   have b2 : decide ((h.fr.length : Int) < (h.fr.length : Int)) = false:=decide_eq_false (by omega)
   have y7 : wr.cell? ⟨g1,7,none⟩ = some (.slice Ae h.ev.length ce):=blk_cell HX.out 7
   go_wp2_with (fail)
   clear y7 b2 hi
   go_loopw [46] (fun v46 wr => ∃ i : Nat,i ≤ h.ev.length ∧ v46 = .int .i64 i ∧ Aside0 (∀ j : Nat,j < i → evOk (rd_T56 h.ev (j : Int))) ∧ Aside0 (wr.heap[g1]? = some (.cells ⟨hostC h (.slice Af h.fs.length cf) (.slice Ab h.bs.length cb) (.slice Aq h.fr.length cq) (.slice Ae h.ev.length ce)⟩ 32 (0,0))) ∧ Aside0 (Below w.heap.size w wr)) (fun v46 _ => h.ev.length - (intOf v46).toNat)
   case atStart => exact ⟨0,Nat.zero_le _,rfl,⟨fun j hj => absurd hj (Nat.not_lt_zero _)⟩,⟨HX.out⟩,⟨HB.out⟩⟩
   case round =>
    clear HX HB
    obtain ⟨i,hi,rfl,HE,HX,HB⟩:=hrel
    by_cases hlt : i < h.ev.length
    ·have b2 : decide ((i : Int) < (h.ev.length : Int)) = true:=decide_eq_true (by omega)
     have p5 : (0 ≤ (i : Int)) = True:=eq_true (by omega)
     have q5 : ((i : Int) < (h.ev.length : Int)) = True:=eq_true (by omega)
     have qn : (i < h.ev.length) = True:=eq_true hlt
     have hn : wrap64 ((i : Int) + 1) = (i : Int) + 1:=by have:=SM.out.l4;unfold wrap64;omega
     have HLT:=Lib.hid hlt
     have HI:=Lib.hid hi
     have HN:=Lib.hid hn
     obtain ⟨ad,A8,c8,ea,k0,k1,k2,k3,k4,k5,k6,k7,l8,g8⟩:=at_T56 (Kd.C_below RE.out HB.out) (i : Int) (by omega) (by omega)
     subst ea
     clear hlt hi l8 g8
     rw [Int.toNat_natCast] at k0 k1 k2 k3 k4 k5 k6 k7
     obtain ⟨b,hb⟩ : ∃ b,b = rd_T56 h.ev (i : Int):=⟨_,rfl⟩
     rw [← hb] at k0 k1 k2 k3 k4 k5 k6 k7
     have HBX:=Lib.hid hb
     have HD8 : Hid (b.f3.f4.length ≤ 10000000):=Lib.hid (by rw [hb];exact SM.out.d4 _ (List.mem_of_getElem? (getD_at h.ev i z56 HLT.out)))
     clear hb
     go_upto_region 12 with (first | ((with_reducible refine gate_dst (N:=6) rfl ?_);refine box_event ?hg (N:=6) ?hd (cs := #[.int .i64 0, .int .i64 0, .int .i64 0, .bool false, .int .u32 0, .bool false, .int .i64 0, .slice none 0 0]) (t:=56) ?hr ?_;(case hd => rfl);(case hg => rfl);(case hr => first | (go_simp;done) | (go_simp;rfl));intro gb hg w1 hbox hb;have LO_HB_gb : Hid (w.heap.size ≤ gb):=Lib.hid (by rw [hg];exact HB.out.size);have NE_g1_gb : Hid (g1 ≠ gb):=Lib.hid (fun e => by have h1:=blk_lt HX.out;omega);have HEgb:=Lib.hid hg;have HB_1:=Lib.hid (below_then HB.out HB.out.size hb);have X_1:=Lib.hid (blk_below HX.out hb);have Xgb_1:=Lib.hid hbox;clear hg hbox hb) | ((with_reducible refine gate_store (t:=56) (p:=6) rfl ?_);refine store_box rfl rfl rfl (g:=gb) (j:=0) (cs := #[.int .i64 0, .int .i64 0, .int .i64 0, .bool false, .int .u32 0, .bool false, .int .i64 0, .slice none 0 0]) (cs':=⟨[.int .i64 b.f0, .int .i64 b.f1, .int .i64 b.f2, .bool b.f3.f0, .int .u32 b.f3.f1, .bool b.f3.f2, .int .i64 b.f3.f3, .slice A8 b.f3.f4.length c8]⟩) (seg := [.int .i64 b.f0, .int .i64 b.f1, .int .i64 b.f2, .bool b.f3.f0, .int .u32 b.f3.f1, .bool b.f3.f2, .int .i64 b.f3.f3, .slice A8 b.f3.f4.length c8]) rfl rfl Xgb_1.out rfl (by kernel_rfl) rfl rfl rfl ?_;intro w2 hx hT;have HB_2:=Lib.hid (hT.below HB_1.out HB_1.out.size (fun k hk => by rw [hk];exact LO_HB_gb.out));have X_2:=Lib.hid (hT.blk X_1.out NE_g1_gb.out);have Xgb_2:=Lib.hid hx;clear hx hT))
     clear k0 k1 k2 k3 k4 k5 k6 k7
     have y0 : w2.cell? ⟨gb,0,none⟩ = some (.int .i64 b.f0):=blk_cell Xgb_2.out 0
     have y1 : w2.cell? ⟨gb,1,none⟩ = some (.int .i64 b.f1):=blk_cell Xgb_2.out 1
     have y2 : w2.cell? ⟨gb,2,none⟩ = some (.int .i64 b.f2):=blk_cell Xgb_2.out 2
     have y3 : w2.cell? ⟨gb,3,none⟩ = some (.bool b.f3.f0):=blk_cell Xgb_2.out 3
     have y4 : w2.cell? ⟨gb,4,none⟩ = some (.int .u32 b.f3.f1):=blk_cell Xgb_2.out 4
     have y5 : w2.cell? ⟨gb,5,none⟩ = some (.bool b.f3.f2):=blk_cell Xgb_2.out 5
     have y6 : w2.cell? ⟨gb,6,none⟩ = some (.int .i64 b.f3.f3):=blk_cell Xgb_2.out 6
     have y7 : w2.cell? ⟨gb,7,none⟩ = some (.slice A8 b.f3.f4.length c8):=blk_cell Xgb_2.out 7
     by_cases r0 : b.f0 < 1
     ·have sr0 : decide (b.f0 < 1) = true:=decide_eq_true r0
      have R0:=Lib.hid r0
      clear r0
      go_wp2_with (fail)
      go_ret
      exact ⟨by rw [isF HO.out (fun G => by have h1:=G.ev i HLT.out;rw [← HBX.out] at h1;obtain ⟨a1,a2,a3,a4,a5,a6,a7⟩:=h1;have:=R0.out;omega)];rfl,HB_2.out⟩
     have sr0 : decide (b.f0 < 1) = false:=decide_eq_false r0
     have R0:=Lib.hid r0
     clear r0
     by_cases r1 : b.f0 > 12
     ·have sr1 : decide (b.f0 > 12) = true:=decide_eq_true r1
      have R1:=Lib.hid r1
      clear r1
      go_wp2_with (fail)
      go_ret
      exact ⟨by rw [isF HO.out (fun G => by have h1:=G.ev i HLT.out;rw [← HBX.out] at h1;obtain ⟨a1,a2,a3,a4,a5,a6,a7⟩:=h1;have:=R1.out;omega)];rfl,HB_2.out⟩
     have sr1 : decide (b.f0 > 12) = false:=decide_eq_false r1
     have R1:=Lib.hid r1
     clear r1
     by_cases r2 : b.f1 < 0
     ·have sr2 : decide (b.f1 < 0) = true:=decide_eq_true r2
      have R2:=Lib.hid r2
      clear r2
      go_wp2_with (fail)
      go_ret
      exact ⟨by rw [isF HO.out (fun G => by have h1:=G.ev i HLT.out;rw [← HBX.out] at h1;obtain ⟨a1,a2,a3,a4,a5,a6,a7⟩:=h1;have:=R2.out;omega)];rfl,HB_2.out⟩
     have sr2 : decide (b.f1 < 0) = false:=decide_eq_false r2
     have R2:=Lib.hid r2
     clear r2
     by_cases r3 : b.f1 > 9999
     ·have sr3 : decide (b.f1 > 9999) = true:=decide_eq_true r3
      have R3:=Lib.hid r3
      clear r3
      go_wp2_with (fail)
      go_ret
      exact ⟨by rw [isF HO.out (fun G => by have h1:=G.ev i HLT.out;rw [← HBX.out] at h1;obtain ⟨a1,a2,a3,a4,a5,a6,a7⟩:=h1;have:=R3.out;omega)];rfl,HB_2.out⟩
     have sr3 : decide (b.f1 > 9999) = false:=decide_eq_false r3
     have R3:=Lib.hid r3
     clear r3
     by_cases r4 : b.f2 < 0
     ·have sr4 : decide (b.f2 < 0) = true:=decide_eq_true r4
      have R4:=Lib.hid r4
      clear r4
      go_wp2_with (fail)
      go_ret
      exact ⟨by rw [isF HO.out (fun G => by have h1:=G.ev i HLT.out;rw [← HBX.out] at h1;obtain ⟨a1,a2,a3,a4,a5,a6,a7⟩:=h1;have:=R4.out;omega)];rfl,HB_2.out⟩
     have sr4 : decide (b.f2 < 0) = false:=decide_eq_false r4
     have R4:=Lib.hid r4
     clear r4
     by_cases r5 : b.f2 > 9
     ·have sr5 : decide (b.f2 > 9) = true:=decide_eq_true r5
      have R5:=Lib.hid r5
      clear r5
      go_wp2_with (fail)
      go_ret
      exact ⟨by rw [isF HO.out (fun G => by have h1:=G.ev i HLT.out;rw [← HBX.out] at h1;obtain ⟨a1,a2,a3,a4,a5,a6,a7⟩:=h1;have:=R5.out;omega)];rfl,HB_2.out⟩
     have sr5 : decide (b.f2 > 9) = false:=decide_eq_false r5
     have R5:=Lib.hid r5
     clear r5
     cases q3 : zeroB b.f3 with
     | true =>
      have Q3:=Lib.hid q3
      clear q3
      go_wp2_with (first | (go_at_call 143;refine (zeroFrame_at b.f3 A8 c8 w2 true Q3.out).mono ?_;rintro e w3 ⟨rfl,hb⟩;have HB_3:=Lib.hid (below_then HB_2.out HB_2.out.size hb);have X_3:=Lib.hid (blk_below X_2.out hb);have Xgb_3:=Lib.hid (blk_below Xgb_2.out hb);clear hb))
      go_roundw
      case rel => exact ⟨i + 1,HLT.out,by rw [HN.out];rfl,⟨fun j hj => by by_cases e : j = i;subst e;rw [← HBX.out];exact ⟨by have:=R0.out;omega,by have:=R1.out;omega,by have:=R2.out;omega,by have:=R3.out;omega,by have:=R4.out;omega,by have:=R5.out;omega, .inl Q3.out⟩;exact HE.out j (by omega)⟩,⟨X_3.out⟩,⟨HB_3.out⟩⟩
      case measure => rw [HN.out];have:=HLT.out;simp [intOf];omega
     | false =>
      have Q3:=Lib.hid q3
      clear q3
      cases q4 : valF b.f3 with
      | true =>
       have Q4:=Lib.hid q4
       clear q4
       go_wp2_with (first | (go_at_call 143;refine (zeroFrame_at b.f3 A8 c8 w2 false Q3.out).mono ?_;rintro e w3 ⟨rfl,hb⟩;have HB_3:=Lib.hid (below_then HB_2.out HB_2.out.size hb);have X_3:=Lib.hid (blk_below X_2.out hb);have Xgb_3:=Lib.hid (blk_below Xgb_2.out hb);have x3 : w3.cell? ⟨gb,3,none⟩ = some (.bool b.f3.f0):=blk_cell Xgb_3.out 3;have x4 : w3.cell? ⟨gb,4,none⟩ = some (.int .u32 b.f3.f1):=blk_cell Xgb_3.out 4;have x5 : w3.cell? ⟨gb,5,none⟩ = some (.bool b.f3.f2):=blk_cell Xgb_3.out 5;have x6 : w3.cell? ⟨gb,6,none⟩ = some (.int .i64 b.f3.f3):=blk_cell Xgb_3.out 6;have x7 : w3.cell? ⟨gb,7,none⟩ = some (.slice A8 b.f3.f4.length c8):=blk_cell Xgb_3.out 7;clear hb) | (go_at_call 119;refine (validFrame_at b.f3 A8 c8 w3 true Q4.out HD8.out).mono ?_;rintro e w4 ⟨rfl,hb⟩;have HB_4:=Lib.hid (below_then HB_3.out HB_3.out.size hb);have X_4:=Lib.hid (blk_below X_3.out hb);have Xgb_4:=Lib.hid (blk_below Xgb_3.out hb);clear hb))
       go_roundw
       case rel => exact ⟨i + 1,HLT.out,by rw [HN.out];rfl,⟨fun j hj => by by_cases e : j = i;subst e;rw [← HBX.out];exact ⟨by have:=R0.out;omega,by have:=R1.out;omega,by have:=R2.out;omega,by have:=R3.out;omega,by have:=R4.out;omega,by have:=R5.out;omega, .inr Q4.out⟩;exact HE.out j (by omega)⟩,⟨X_4.out⟩,⟨HB_4.out⟩⟩
       case measure => rw [HN.out];have:=HLT.out;simp [intOf];omega
      | false =>
       have Q4:=Lib.hid q4
       clear q4
       go_wp2_with (first | (go_at_call 143;refine (zeroFrame_at b.f3 A8 c8 w2 false Q3.out).mono ?_;rintro e w3 ⟨rfl,hb⟩;have HB_3:=Lib.hid (below_then HB_2.out HB_2.out.size hb);have X_3:=Lib.hid (blk_below X_2.out hb);have Xgb_3:=Lib.hid (blk_below Xgb_2.out hb);have x3 : w3.cell? ⟨gb,3,none⟩ = some (.bool b.f3.f0):=blk_cell Xgb_3.out 3;have x4 : w3.cell? ⟨gb,4,none⟩ = some (.int .u32 b.f3.f1):=blk_cell Xgb_3.out 4;have x5 : w3.cell? ⟨gb,5,none⟩ = some (.bool b.f3.f2):=blk_cell Xgb_3.out 5;have x6 : w3.cell? ⟨gb,6,none⟩ = some (.int .i64 b.f3.f3):=blk_cell Xgb_3.out 6;have x7 : w3.cell? ⟨gb,7,none⟩ = some (.slice A8 b.f3.f4.length c8):=blk_cell Xgb_3.out 7;clear hb) | (go_at_call 119;refine (validFrame_at b.f3 A8 c8 w3 false Q4.out HD8.out).mono ?_;rintro e w4 ⟨rfl,hb⟩;have HB_4:=Lib.hid (below_then HB_3.out HB_3.out.size hb);have X_4:=Lib.hid (blk_below X_3.out hb);have Xgb_4:=Lib.hid (blk_below Xgb_3.out hb);clear hb))
       go_ret
       exact ⟨by rw [isF HO.out (fun G => by have h1:=G.ev i HLT.out;rw [← HBX.out] at h1;obtain ⟨a1,a2,a3,a4,a5,a6,a7⟩:=h1;rcases a7 with a7 | a7;rw [Q3.out] at a7;cases a7;rw [Q4.out] at a7;cases a7)];rfl,HB_4.out⟩
    ·have hii : i = h.ev.length:=by omega
     subst hii
     have b2 : decide ((h.ev.length : Int) < (h.ev.length : Int)) = false:=decide_eq_false (by omega)
     go_wp2_with (fail)
     go_ret
     have G : GoodL h:=⟨Classical.not_not.1 R0.out,by have:=R1.out;omega,by have:=R2.out;omega,HF.out,HE.out⟩
     exact ⟨by rw [HO.out.2 G];rfl,HB.out⟩
end Go.Proofs.Ytcaefabbcjlkdaa.P
