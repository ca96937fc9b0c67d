/- Texts of the proof of FnExactBest, joined. -/
import Derived.Test.YtcaefabbcjlkdaaSFnExactBest29
import Derived.Test.YtcaefabbcjlkdaaSFnExactBest27
import Derived.Test.YtcaefabbcjlkdaaSFnExactBest26
import Derived.Test.YtcaefabbcjlkdaaSFnExactBest28
import Derived.Test.YtcaefabbcjlkdaaSFnExactBest22
import Derived.Deep.RegionHeld
namespace Go.Proofs.Ytcaefabbcjlkdaa.P
open Go Go.RowKit Go.Proofs.YtcaefabbcjlkdaaW.PrintWords Go.Proofs.YtcaefabbcjlkdaaW.PrintLast Go.Proofs.YtcaefabbcjlkdaaW.PrintMore
set_option linter.unusedVariables false
set_option linter.unusedSimpArgs false
set_option maxRecDepth 100000 in
set_option maxHeartbeats 8000000 in
theorem goodHost_v (h : HV) (o o1 o2 o3 o4 : Bool) (hO : OkH h o o1 o2 o3 o4) (w : World) (C : List Value) (hR : HRead w h C) (hS : HSm h) :
  Calls Try.prog 76 #[.agg ⟨C⟩] w fun e w' => e = .returned (.bool o) ∧ Below w.heap.size w w':=by
 have RR:=Lib.hid hR
 obtain ⟨Af,cf,Ab,cb,Aq,cq,Ae,ce,rfl,rf,lf,_,_,_,_,_,_⟩:=hR
 have RF:=Lib.hid rf
 have LF:=Lib.hid lf
 have SM:=Lib.hid hS
 have E1:=Lib.hid hO.e1
 obtain ⟨kf,hkf⟩:=hO.e2.rounds
 have E2:=Lib.hid hkf
 have E3:=Lib.hid hO.e3
 have E4:=Lib.hid hO.e4
 have his:=hO.is
 have HB_0 : Hid (Below w.heap.size w w):=Lib.hid (Below.refl _ _)
 have hu32:=Lib.hid Try.underlying32
 have hu26:=Lib.hid Try.underlying26
 clear hS rf lf hO hkf
 go_enter Try.func76,Try.ntmps76
 go_upto_region 1 with (first | ((with_reducible refine gate_dst (N:=1) rfl ?_);refine box_event ?hg (N:=1) ?hd (cs:=⟨hostC h (.slice Af h.fs.length cf) (.slice Ab h.bs.length cb) (.slice Aq h.fr.length cq) (.slice Ae h.ev.length ce)⟩) (t:=32) ?hr ?_;(case hd => rfl);(case hg => rfl);(case hr => first | (go_simp;done) | (go_simp;rfl));intro g1 hg w1 hbox hb;have LO_HB_g1 : Hid (w.heap.size ≤ g1):=Lib.hid (by rw [hg];exact HB_0.out.size);have HEg1:=Lib.hid hg;have HB_1:=Lib.hid (below_then HB_0.out HB_0.out.size hb);have Xg1_1:=Lib.hid hbox;clear hg hbox hb))
 have y0 : w1.cell? ⟨g1,0,none⟩ = some (.int .i64 h.cb):=blk_cell Xg1_1.out 0
 have y1 : w1.cell? ⟨g1,1,none⟩ = some (.int .i64 h.cf):=blk_cell Xg1_1.out 1
 have y2 : w1.cell? ⟨g1,2,none⟩ = some (.int .i64 h.cp):=blk_cell Xg1_1.out 2
 have y3 : w1.cell? ⟨g1,3,none⟩ = some (.int .i64 h.ce):=blk_cell Xg1_1.out 3
 cases o1 with
 | false =>
  simp only [Bool.false_and] at his
  subst his
  go_wp2_with (first | (go_at_call 61;refine (impl_goodConfig.calls h.cb h.cf h.cp h.ce false w1 E1.out).mono ?_;rintro e w2 ⟨rfl,hb⟩;have HB_2:=Lib.hid (below_then HB_1.out HB_1.out.size hb);have Xg1_2:=Lib.hid (blk_below Xg1_1.out hb);have f4 : w2.cell? ⟨g1,4,none⟩ = some (.slice Af h.fs.length cf):=blk_cell Xg1_2.out 4;clear hb))
  go_ret
  exact ⟨rfl,HB_2.out⟩
 | true =>
  cases o2 with
  | false =>
   simp only [Bool.false_and,Bool.and_false] at his
   subst his
   go_wp2_with (first | (go_at_call 61;refine (impl_goodConfig.calls h.cb h.cf h.cp h.ce true w1 E1.out).mono ?_;rintro e w2 ⟨rfl,hb⟩;have HB_2:=Lib.hid (below_then HB_1.out HB_1.out.size hb);have Xg1_2:=Lib.hid (blk_below Xg1_1.out hb);have f4 : w2.cell? ⟨g1,4,none⟩ = some (.slice Af h.fs.length cf):=blk_cell Xg1_2.out 4;clear hb) | (go_at_call 62;refine (impl_goodFilters.calls kf Af cf h.fs false w2 (Kd.C_below RF.out HB_2.out) LF.out E2.out).mono ?_;rintro e w3 ⟨rfl,hb⟩;have HB_3:=Lib.hid (below_then HB_2.out HB_2.out.size hb);have Xg1_3:=Lib.hid (blk_below Xg1_2.out hb);have l8 : w3.cell? ⟨g1,8,none⟩ = some (.int .i64 h.lost):=blk_cell Xg1_3.out 8;have l9 : w3.cell? ⟨g1,9,none⟩ = some (.int .i64 h.stamp):=blk_cell Xg1_3.out 9;clear hb))
   go_ret
   exact ⟨rfl,HB_3.out⟩
  | true =>
   simp only [Bool.true_and] at his
   by_cases r0 : h.lost < 0
   ·have sr0 : decide (h.lost < 0) = true:=decide_eq_true r0
    have R0:=Lib.hid r0
    clear r0
    have hz : decide (0 ≤ h.lost) = false:=decide_eq_false (by have:=R0.out;omega)
    rw [hz] at his
    simp only [Bool.false_and,Bool.and_false] at his
    subst his
    clear hz
    go_wp2_with (first | (go_at_call 61;refine (impl_goodConfig.calls h.cb h.cf h.cp h.ce true w1 E1.out).mono ?_;rintro e w2 ⟨rfl,hb⟩;have HB_2:=Lib.hid (below_then HB_1.out HB_1.out.size hb);have Xg1_2:=Lib.hid (blk_below Xg1_1.out hb);have f4 : w2.cell? ⟨g1,4,none⟩ = some (.slice Af h.fs.length cf):=blk_cell Xg1_2.out 4;clear hb) | (go_at_call 62;refine (impl_goodFilters.calls kf Af cf h.fs true w2 (Kd.C_below RF.out HB_2.out) LF.out E2.out).mono ?_;rintro e w3 ⟨rfl,hb⟩;have HB_3:=Lib.hid (below_then HB_2.out HB_2.out.size hb);have Xg1_3:=Lib.hid (blk_below Xg1_2.out hb);have l8 : w3.cell? ⟨g1,8,none⟩ = some (.int .i64 h.lost):=blk_cell Xg1_3.out 8;have l9 : w3.cell? ⟨g1,9,none⟩ = some (.int .i64 h.stamp):=blk_cell Xg1_3.out 9;clear hb))
    go_ret
    exact ⟨rfl,HB_3.out⟩
   have sr0 : decide (h.lost < 0) = false:=decide_eq_false r0
   have R0:=Lib.hid r0
   clear r0
   by_cases r1 : h.lost > 100000
   ·have sr1 : decide (h.lost > 100000) = true:=decide_eq_true r1
    have R1:=Lib.hid r1
    clear r1
    have hz : decide (h.lost ≤ 100000) = false:=decide_eq_false (by have:=R1.out;omega)
    rw [hz] at his
    simp only [Bool.false_and,Bool.and_false] at his
    subst his
    clear hz
    go_wp2_with (first | (go_at_call 61;refine (impl_goodConfig.calls h.cb h.cf h.cp h.ce true w1 E1.out).mono ?_;rintro e w2 ⟨rfl,hb⟩;have HB_2:=Lib.hid (below_then HB_1.out HB_1.out.size hb);have Xg1_2:=Lib.hid (blk_below Xg1_1.out hb);have f4 : w2.cell? ⟨g1,4,none⟩ = some (.slice Af h.fs.length cf):=blk_cell Xg1_2.out 4;clear hb) | (go_at_call 62;refine (impl_goodFilters.calls kf Af cf h.fs true w2 (Kd.C_below RF.out HB_2.out) LF.out E2.out).mono ?_;rintro e w3 ⟨rfl,hb⟩;have HB_3:=Lib.hid (below_then HB_2.out HB_2.out.size hb);have Xg1_3:=Lib.hid (blk_below Xg1_2.out hb);have l8 : w3.cell? ⟨g1,8,none⟩ = some (.int .i64 h.lost):=blk_cell Xg1_3.out 8;have l9 : w3.cell? ⟨g1,9,none⟩ = some (.int .i64 h.stamp):=blk_cell Xg1_3.out 9;clear hb))
    go_ret
    exact ⟨rfl,HB_3.out⟩
   have sr1 : decide (h.lost > 100000) = false:=decide_eq_false r1
   have R1:=Lib.hid r1
   clear r1
   by_cases r2 : h.stamp < 0
   ·have sr2 : decide (h.stamp < 0) = true:=decide_eq_true r2
    have R2:=Lib.hid r2
    clear r2
    have hz : decide (0 ≤ h.stamp) = false:=decide_eq_false (by have:=R2.out;omega)
    rw [hz] at his
    simp only [Bool.false_and,Bool.and_false] at his
    subst his
    clear hz
    go_wp2_with (first | (go_at_call 61;refine (impl_goodConfig.calls h.cb h.cf h.cp h.ce true w1 E1.out).mono ?_;rintro e w2 ⟨rfl,hb⟩;have HB_2:=Lib.hid (below_then HB_1.out HB_1.out.size hb);have Xg1_2:=Lib.hid (blk_below Xg1_1.out hb);have f4 : w2.cell? ⟨g1,4,none⟩ = some (.slice Af h.fs.length cf):=blk_cell Xg1_2.out 4;clear hb) | (go_at_call 62;refine (impl_goodFilters.calls kf Af cf h.fs true w2 (Kd.C_below RF.out HB_2.out) LF.out E2.out).mono ?_;rintro e w3 ⟨rfl,hb⟩;have HB_3:=Lib.hid (below_then HB_2.out HB_2.out.size hb);have Xg1_3:=Lib.hid (blk_below Xg1_2.out hb);have l8 : w3.cell? ⟨g1,8,none⟩ = some (.int .i64 h.lost):=blk_cell Xg1_3.out 8;have l9 : w3.cell? ⟨g1,9,none⟩ = some (.int .i64 h.stamp):=blk_cell Xg1_3.out 9;clear hb))
    go_ret
    exact ⟨rfl,HB_3.out⟩
   have sr2 : decide (h.stamp < 0) = false:=decide_eq_false r2
   have R2:=Lib.hid r2
   clear r2
   by_cases r3 : h.stamp > 1000000
   ·have sr3 : decide (h.stamp > 1000000) = true:=decide_eq_true r3
    have R3:=Lib.hid r3
    clear r3
    have hz : decide (h.stamp ≤ 1000000) = false:=decide_eq_false (by have:=R3.out;omega)
    rw [hz] at his
    simp only [Bool.false_and,Bool.and_false] at his
    subst his
    clear hz
    go_wp2_with (first | (go_at_call 61;refine (impl_goodConfig.calls h.cb h.cf h.cp h.ce true w1 E1.out).mono ?_;rintro e w2 ⟨rfl,hb⟩;have HB_2:=Lib.hid (below_then HB_1.out HB_1.out.size hb);have Xg1_2:=Lib.hid (blk_below Xg1_1.out hb);have f4 : w2.cell? ⟨g1,4,none⟩ = some (.slice Af h.fs.length cf):=blk_cell Xg1_2.out 4;clear hb) | (go_at_call 62;refine (impl_goodFilters.calls kf Af cf h.fs true w2 (Kd.C_below RF.out HB_2.out) LF.out E2.out).mono ?_;rintro e w3 ⟨rfl,hb⟩;have HB_3:=Lib.hid (below_then HB_2.out HB_2.out.size hb);have Xg1_3:=Lib.hid (blk_below Xg1_2.out hb);have l8 : w3.cell? ⟨g1,8,none⟩ = some (.int .i64 h.lost):=blk_cell Xg1_3.out 8;have l9 : w3.cell? ⟨g1,9,none⟩ = some (.int .i64 h.stamp):=blk_cell Xg1_3.out 9;clear hb))
    go_ret
    exact ⟨rfl,HB_3.out⟩
   have sr3 : decide (h.stamp > 1000000) = false:=decide_eq_false r3
   have R3:=Lib.hid r3
   clear r3
   have hz0 : decide (0 ≤ h.lost) = true:=decide_eq_true (by have:=R0.out;omega)
   have hz1 : decide (h.lost ≤ 100000) = true:=decide_eq_true (by have:=R1.out;omega)
   have hz2 : decide (0 ≤ h.stamp) = true:=decide_eq_true (by have:=R2.out;omega)
   have hz3 : decide (h.stamp ≤ 1000000) = true:=decide_eq_true (by have:=R3.out;omega)
   rw [hz0,hz1,hz2,hz3] at his
   simp only [Bool.true_and] at his
   clear hz0 hz1 hz2 hz3
   go_upto_region 3 with (first | (go_at_call 61;refine (impl_goodConfig.calls h.cb h.cf h.cp h.ce true w1 E1.out).mono ?_;rintro e w2 ⟨rfl,hb⟩;have HB_2:=Lib.hid (below_then HB_1.out HB_1.out.size hb);have Xg1_2:=Lib.hid (blk_below Xg1_1.out hb);have f4 : w2.cell? ⟨g1,4,none⟩ = some (.slice Af h.fs.length cf):=blk_cell Xg1_2.out 4;clear hb) | (go_at_call 62;refine (impl_goodFilters.calls kf Af cf h.fs true w2 (Kd.C_below RF.out HB_2.out) LF.out E2.out).mono ?_;rintro e w3 ⟨rfl,hb⟩;have HB_3:=Lib.hid (below_then HB_2.out HB_2.out.size hb);have Xg1_3:=Lib.hid (blk_below Xg1_2.out hb);have l8 : w3.cell? ⟨g1,8,none⟩ = some (.int .i64 h.lost):=blk_cell Xg1_3.out 8;have l9 : w3.cell? ⟨g1,9,none⟩ = some (.int .i64 h.stamp):=blk_cell Xg1_3.out 9;clear hb))
   clear y0 y1 y2 y3 sr0 sr1 sr2 sr3
   cases o3 with
   | false =>
    simp only [Bool.false_and] at his
    subst his
    go_wp2_with (first | ((with_reducible refine gate_dst (N:=33) rfl ?_);refine load_all rfl rfl (g:=g1) rfl Xg1_3.out hu32.out (by kernel_rfl) ?_) | (go_at_call 116;refine (goodLists_v h false E3.out w3 _ (RR.out.below HB_3.out) SM.out).mono ?_;rintro e w4 ⟨rfl,hb⟩;have HB_4:=Lib.hid (below_then HB_3.out HB_3.out.size hb);have Xg1_4:=Lib.hid (blk_below Xg1_3.out hb);clear hb))
    go_ret
    exact ⟨rfl,HB_4.out⟩
   | true =>
    simp only [Bool.true_and] at his
    have HIS:=Lib.hid his
    clear his
    go_wp2_with (first | ((with_reducible refine gate_dst (N:=33) rfl ?_);refine load_all rfl rfl (g:=g1) rfl Xg1_3.out hu32.out (by kernel_rfl) ?_) | (go_at_call 116;refine (goodLists_v h true E3.out w3 _ (RR.out.below HB_3.out) SM.out).mono ?_;rintro e w4 ⟨rfl,hb⟩;have HB_4:=Lib.hid (below_then HB_3.out HB_3.out.size hb);have Xg1_4:=Lib.hid (blk_below Xg1_3.out hb);clear hb) | ((with_reducible refine gate_dst (N:=36) rfl ?_);refine gate_guard (by rfl) ?_;refine load_all rfl rfl (g:=g1) rfl Xg1_4.out hu32.out (by kernel_rfl) ?_) | (go_at_call 117;refine (goodBoxes_v h o4 E4.out w4 _ (RR.out.below HB_4.out) SM.out).mono ?_;rintro e w5 ⟨rfl,hb⟩;have HB_5:=Lib.hid (below_then HB_4.out HB_4.out.size hb);have Xg1_5:=Lib.hid (blk_below Xg1_4.out hb);clear hb))
    go_ret
    exact ⟨by rw [HIS.out];rfl,HB_5.out⟩
set_option maxRecDepth 100000 in
set_option maxHeartbeats 8000000 in
theorem specOk_v (h : HV) (o o1 o2 o3 o4 : Bool) (hO : OkH h o o1 o2 o3 o4) (w : World) (C : List Value) (hR : HRead w h C) (hS : HSm h) :
  Calls Try.prog 86 #[.agg ⟨C⟩] w fun e w' => e = .returned (.bool o) ∧ Below w.heap.size w w':=by
 have RR:=Lib.hid hR
 obtain ⟨Af,cf,Ab,cb,Aq,cq,Ae,ce,rfl,rf,lf,_,_,rq,lq,re,le⟩:=hR
 have RF:=Lib.hid rf
 have LF:=Lib.hid lf
 have RQ:=Lib.hid rq
 have RE:=Lib.hid re
 have SM:=Lib.hid hS
 have E1 : Hid (spec_l3okConfig.f h.cb h.cf h.cp h.ce = some o1):=Lib.hid hO.e1
 obtain ⟨kf,hkf⟩:=hO.e2'.rounds
 have E2:=Lib.hid hkf
 have E3:=Lib.hid hO.e3
 have E4:=Lib.hid hO.e4
 have HIS:=Lib.hid hO.is
 have HB_0 : Hid (Below w.heap.size w w):=Lib.hid (Below.refl _ _)
 have hu32:=Lib.hid Try.underlying32
 clear hS rf lf hO hkf rq re
 go_enter Try.func86,Try.ntmps86
 go_upto_region 1 with (first | ((with_reducible refine gate_dst (N:=1) rfl ?_);refine box_event ?hg (N:=1) ?hd (cs:=⟨hostC h (.slice Af h.fs.length cf) (.slice Ab h.bs.length cb) (.slice Aq h.fr.length cq) (.slice Ae h.ev.length ce)⟩) (t:=32) ?hr ?_;(case hd => rfl);(case hg => rfl);(case hr => first | (go_simp;done) | (go_simp;rfl));intro g1 hg w1 hbox hb;have LO_HB_g1 : Hid (w.heap.size ≤ g1):=Lib.hid (by rw [hg];exact HB_0.out.size);have HEg1:=Lib.hid hg;have HB_1:=Lib.hid (below_then HB_0.out HB_0.out.size hb);have Xg1_1:=Lib.hid hbox;clear hg hbox hb))
 have y0 : w1.cell? ⟨g1,0,none⟩ = some (.int .i64 h.cb):=blk_cell Xg1_1.out 0
 have y1 : w1.cell? ⟨g1,1,none⟩ = some (.int .i64 h.cf):=blk_cell Xg1_1.out 1
 have y2 : w1.cell? ⟨g1,2,none⟩ = some (.int .i64 h.cp):=blk_cell Xg1_1.out 2
 have y3 : w1.cell? ⟨g1,3,none⟩ = some (.int .i64 h.ce):=blk_cell Xg1_1.out 3
 cases o1 with
 | false =>
  go_wp2_with (first | (go_at_call 57;refine (spec_l3okConfig.calls h.cb h.cf h.cp h.ce false w1 E1.out).mono ?_;rintro e w2 ⟨rfl,hb⟩;have HB_2:=Lib.hid (below_then HB_1.out HB_1.out.size hb);have Xg1_2:=Lib.hid (blk_below Xg1_1.out hb);have f4 : w2.cell? ⟨g1,4,none⟩ = some (.slice Af h.fs.length cf):=blk_cell Xg1_2.out 4;clear hb))
  go_ret
  exact ⟨by rw [show o = false by rw [HIS.out,Bool.false_and] <;> simp];rfl,HB_2.out⟩
 | true =>
  cases o2 with
  | false =>
   go_wp2_with (first | (go_at_call 57;refine (spec_l3okConfig.calls h.cb h.cf h.cp h.ce true w1 E1.out).mono ?_;rintro e w2 ⟨rfl,hb⟩;have HB_2:=Lib.hid (below_then HB_1.out HB_1.out.size hb);have Xg1_2:=Lib.hid (blk_below Xg1_1.out hb);have f4 : w2.cell? ⟨g1,4,none⟩ = some (.slice Af h.fs.length cf):=blk_cell Xg1_2.out 4;clear hb) | (go_at_call 58;refine (spec_l3okFilters.calls kf Af cf h.fs false w2 (Kd.C_below RF.out HB_2.out) LF.out E2.out).mono ?_;rintro e w3 ⟨rfl,hd⟩;have hb:=hd.below;have HB_3:=Lib.hid (below_then HB_2.out HB_2.out.size hb);have Xg1_3:=Lib.hid (blk_below Xg1_2.out hb);have l0 : w3.cell? ⟨g1,0,none⟩ = some (.int .i64 h.cb):=blk_cell Xg1_3.out 0;have l1 : w3.cell? ⟨g1,1,none⟩ = some (.int .i64 h.cf):=blk_cell Xg1_3.out 1;have l3 : w3.cell? ⟨g1,3,none⟩ = some (.int .i64 h.ce):=blk_cell Xg1_3.out 3;have l5 : w3.cell? ⟨g1,5,none⟩ = some (.slice Ab h.bs.length cb):=blk_cell Xg1_3.out 5;have l6 : w3.cell? ⟨g1,6,none⟩ = some (.slice Aq h.fr.length cq):=blk_cell Xg1_3.out 6;have l7 : w3.cell? ⟨g1,7,none⟩ = some (.slice Ae h.ev.length ce):=blk_cell Xg1_3.out 7;have l8 : w3.cell? ⟨g1,8,none⟩ = some (.int .i64 h.lost):=blk_cell Xg1_3.out 8;have l9 : w3.cell? ⟨g1,9,none⟩ = some (.int .i64 h.stamp):=blk_cell Xg1_3.out 9;clear hb hd))
   go_ret
   exact ⟨by rw [show o = false by rw [HIS.out,Bool.false_and] <;> simp];rfl,HB_3.out⟩
  | true =>
   by_cases p0 : (h.bs.length : Int) ≠ h.cb
   ·have sp0 : ((h.bs.length : Int) != h.cb) = true:=bne_iff_ne.2 p0
    have P0:=Lib.hid p0
    clear p0
    go_wp2_with (first | (go_at_call 57;refine (spec_l3okConfig.calls h.cb h.cf h.cp h.ce true w1 E1.out).mono ?_;rintro e w2 ⟨rfl,hb⟩;have HB_2:=Lib.hid (below_then HB_1.out HB_1.out.size hb);have Xg1_2:=Lib.hid (blk_below Xg1_1.out hb);have f4 : w2.cell? ⟨g1,4,none⟩ = some (.slice Af h.fs.length cf):=blk_cell Xg1_2.out 4;clear hb) | (go_at_call 58;refine (spec_l3okFilters.calls kf Af cf h.fs true w2 (Kd.C_below RF.out HB_2.out) LF.out E2.out).mono ?_;rintro e w3 ⟨rfl,hd⟩;have hb:=hd.below;have HB_3:=Lib.hid (below_then HB_2.out HB_2.out.size hb);have Xg1_3:=Lib.hid (blk_below Xg1_2.out hb);have l0 : w3.cell? ⟨g1,0,none⟩ = some (.int .i64 h.cb):=blk_cell Xg1_3.out 0;have l1 : w3.cell? ⟨g1,1,none⟩ = some (.int .i64 h.cf):=blk_cell Xg1_3.out 1;have l3 : w3.cell? ⟨g1,3,none⟩ = some (.int .i64 h.ce):=blk_cell Xg1_3.out 3;have l5 : w3.cell? ⟨g1,5,none⟩ = some (.slice Ab h.bs.length cb):=blk_cell Xg1_3.out 5;have l6 : w3.cell? ⟨g1,6,none⟩ = some (.slice Aq h.fr.length cq):=blk_cell Xg1_3.out 6;have l7 : w3.cell? ⟨g1,7,none⟩ = some (.slice Ae h.ev.length ce):=blk_cell Xg1_3.out 7;have l8 : w3.cell? ⟨g1,8,none⟩ = some (.int .i64 h.lost):=blk_cell Xg1_3.out 8;have l9 : w3.cell? ⟨g1,9,none⟩ = some (.int .i64 h.stamp):=blk_cell Xg1_3.out 9;clear hb hd))
    go_ret
    exact ⟨by rw [show o = false by rw [HIS.out,isF E3.out (fun G => P0.out G.nb)] <;> simp];rfl,HB_3.out⟩
   have sp0 : ((h.bs.length : Int) != h.cb) = false:=by rw [Classical.not_not.1 p0];exact bne_self_eq_false _
   have P0:=Lib.hid p0
   clear p0
   go_upto_region 3 with (first | (go_at_call 57;refine (spec_l3okConfig.calls h.cb h.cf h.cp h.ce true w1 E1.out).mono ?_;rintro e w2 ⟨rfl,hb⟩;have HB_2:=Lib.hid (below_then HB_1.out HB_1.out.size hb);have Xg1_2:=Lib.hid (blk_below Xg1_1.out hb);have f4 : w2.cell? ⟨g1,4,none⟩ = some (.slice Af h.fs.length cf):=blk_cell Xg1_2.out 4;clear hb) | (go_at_call 58;refine (spec_l3okFilters.calls kf Af cf h.fs true w2 (Kd.C_below RF.out HB_2.out) LF.out E2.out).mono ?_;rintro e w3 ⟨rfl,hd⟩;have hb:=hd.below;have HB_3:=Lib.hid (below_then HB_2.out HB_2.out.size hb);have Xg1_3:=Lib.hid (blk_below Xg1_2.out hb);have l0 : w3.cell? ⟨g1,0,none⟩ = some (.int .i64 h.cb):=blk_cell Xg1_3.out 0;have l1 : w3.cell? ⟨g1,1,none⟩ = some (.int .i64 h.cf):=blk_cell Xg1_3.out 1;have l3 : w3.cell? ⟨g1,3,none⟩ = some (.int .i64 h.ce):=blk_cell Xg1_3.out 3;have l5 : w3.cell? ⟨g1,5,none⟩ = some (.slice Ab h.bs.length cb):=blk_cell Xg1_3.out 5;have l6 : w3.cell? ⟨g1,6,none⟩ = some (.slice Aq h.fr.length cq):=blk_cell Xg1_3.out 6;have l7 : w3.cell? ⟨g1,7,none⟩ = some (.slice Ae h.ev.length ce):=blk_cell Xg1_3.out 7;have l8 : w3.cell? ⟨g1,8,none⟩ = some (.int .i64 h.lost):=blk_cell Xg1_3.out 8;have l9 : w3.cell? ⟨g1,9,none⟩ = some (.int .i64 h.stamp):=blk_cell Xg1_3.out 9;clear hb hd))
   clear y0 y1 y2 y3 sp0
   have y1 : w3.cell? ⟨g1,1,none⟩ = some (.int .i64 h.cf):=blk_cell Xg1_3.out 1
   have y3 : w3.cell? ⟨g1,3,none⟩ = some (.int .i64 h.ce):=blk_cell Xg1_3.out 3
   have y6 : w3.cell? ⟨g1,6,none⟩ = some (.slice Aq h.fr.length cq):=blk_cell Xg1_3.out 6
   have y7 : w3.cell? ⟨g1,7,none⟩ = some (.slice Ae h.ev.length ce):=blk_cell Xg1_3.out 7
   have y8 : w3.cell? ⟨g1,8,none⟩ = some (.int .i64 h.lost):=blk_cell Xg1_3.out 8
   have y9 : w3.cell? ⟨g1,9,none⟩ = some (.int .i64 h.stamp):=blk_cell Xg1_3.out 9
   by_cases q0 : (h.fr.length : Int) > h.cf
   ·have sq0 : decide ((h.fr.length : Int) > h.cf) = true:=decide_eq_true q0
    have Q0:=Lib.hid q0
    clear q0
    go_wp2_with (fail)
    go_ret
    exact ⟨by rw [show o = false by rw [HIS.out,isF E3.out (fun G => by have:=Q0.out;have:=G.nq;omega)] <;> simp];rfl,HB_3.out⟩
   have sq0 : decide ((h.fr.length : Int) > h.cf) = false:=decide_eq_false q0
   have Q0:=Lib.hid q0
   clear q0
   by_cases q1 : (h.ev.length : Int) > h.ce
   ·have sq1 : decide ((h.ev.length : Int) > h.ce) = true:=decide_eq_true q1
    have Q1:=Lib.hid q1
    clear q1
    go_wp2_with (fail)
    go_ret
    exact ⟨by rw [show o = false by rw [HIS.out,isF E3.out (fun G => by have:=Q1.out;have:=G.ne;omega)] <;> simp];rfl,HB_3.out⟩
   have sq1 : decide ((h.ev.length : Int) > h.ce) = false:=decide_eq_false q1
   have Q1:=Lib.hid q1
   clear q1
   by_cases r0 : h.lost < 0
   ·have sr0 : decide (h.lost < 0) = true:=decide_eq_true r0
    have R0:=Lib.hid r0
    clear r0
    go_wp2_with (fail)
    go_ret
    exact ⟨by rw [show o = false by rw [HIS.out,show decide (0 ≤ h.lost) = false from decide_eq_false (by have:=R0.out;omega)] <;> simp];rfl,HB_3.out⟩
   have sr0 : decide (h.lost < 0) = false:=decide_eq_false r0
   have R0:=Lib.hid r0
   clear r0
   by_cases r1 : h.lost > 100000
   ·have sr1 : decide (h.lost > 100000) = true:=decide_eq_true r1
    have R1:=Lib.hid r1
    clear r1
    go_wp2_with (fail)
    go_ret
    exact ⟨by rw [show o = false by rw [HIS.out,show decide (h.lost ≤ 100000) = false from decide_eq_false (by have:=R1.out;omega)] <;> simp];rfl,HB_3.out⟩
   have sr1 : decide (h.lost > 100000) = false:=decide_eq_false r1
   have R1:=Lib.hid r1
   clear r1
   by_cases r2 : h.stamp < 0
   ·have sr2 : decide (h.stamp < 0) = true:=decide_eq_true r2
    have R2:=Lib.hid r2
    clear r2
    go_wp2_with (fail)
    go_ret
    exact ⟨by rw [show o = false by rw [HIS.out,show decide (0 ≤ h.stamp) = false from decide_eq_false (by have:=R2.out;omega)] <;> simp];rfl,HB_3.out⟩
   have sr2 : decide (h.stamp < 0) = false:=decide_eq_false r2
   have R2:=Lib.hid r2
   clear r2
   by_cases r3 : h.stamp > 1000000
   ·have sr3 : decide (h.stamp > 1000000) = true:=decide_eq_true r3
    have R3:=Lib.hid r3
    clear r3
    go_wp2_with (fail)
    go_ret
    exact ⟨by rw [show o = false by rw [HIS.out,show decide (h.stamp ≤ 1000000) = false from decide_eq_false (by have:=R3.out;omega)] <;> simp];rfl,HB_3.out⟩
   have sr3 : decide (h.stamp > 1000000) = false:=decide_eq_false r3
   have R3:=Lib.hid r3
   clear r3
   go_wp2_with (fail)
   clear y1 y3 y6 y7 y8 y9 sq0 sq1 sr0 sr1 sr2 sr3
   go_loopw [3] (fun v3 wr => ∃ i : Nat,i ≤ h.fr.length ∧ v3 = .int .i64 i ∧ Aside0 (∀ j : Nat,j < i → valF (rd_T45 h.fr (j : Int)) = true) ∧ Aside0 (wr.heap[g1]? = some (.cells ⟨hostC h (.slice Af h.fs.length cf) (.slice Ab h.bs.length cb) (.slice Aq h.fr.length cq) (.slice Ae h.ev.length ce)⟩ 32 (0,0))) ∧ Aside0 (Below w.heap.size w wr)) (fun v3 _ => h.fr.length - (intOf v3).toNat)
   case atStart => exact ⟨0,Nat.zero_le _,rfl,⟨fun j hj => absurd hj (Nat.not_lt_zero _)⟩,⟨Xg1_3.out⟩,⟨HB_3.out⟩⟩
   case round =>
    clear Xg1_3 HB_3
    obtain ⟨i,hi,rfl,HF,HX,HB⟩:=hrel
    have y6 : wr.cell? ⟨g1,6,none⟩ = some (.slice Aq h.fr.length cq):=blk_cell HX.out 6
    by_cases hlt : i < h.fr.length
    ·have b2 : decide ((i : Int) < (h.fr.length : Int)) = true:=decide_eq_true (by omega)
     have p5 : (0 ≤ (i : Int)) = True:=eq_true (by omega)
     have q5 : ((i : Int) < (h.fr.length : Int)) = True:=eq_true (by omega)
     have qn : (i < h.fr.length) = True:=eq_true hlt
     have hn : wrap64 ((i : Int) + 1) = (i : Int) + 1:=by have:=SM.out.l3;unfold wrap64;omega
     have HLT:=Lib.hid hlt
     have HI:=Lib.hid hi
     have HN:=Lib.hid hn
     obtain ⟨ad,A8,c8,ea,k0,k1,k2,k3,k4,l8,g8⟩:=at_T45 (Kd.C_below RQ.out HB.out) (i : Int) (by omega) (by omega)
     subst ea
     clear hlt hi
     rw [Int.toNat_natCast] at k0 k1 k2 k3 k4
     obtain ⟨f,hb⟩ : ∃ b,b = rd_T45 h.fr (i : Int):=⟨_,rfl⟩
     rw [← hb] at k0 k1 k2 k3 k4 l8 g8
     have HBX : Hid (f = rd_T45 h.fr (i : Int)):=Lib.hid hb
     have HD8 : Hid (f.f4.length ≤ 10000000):=Lib.hid (by rw [hb];exact SM.out.d3 _ (List.mem_of_getElem? (getD_at h.fr i z45 HLT.out)))
     have L8:=Lib.hid l8
     have G8:=Lib.hid g8
     clear hb l8 g8
     cases q3 : valF f with
     | false =>
      have Q3:=Lib.hid q3
      clear q3
      go_wp2_with (first | (go_at_call 75;refine (specValid_at f A8 c8 wr false Q3.out G8.out L8.out).mono ?_;rintro e w1 ⟨rfl,hb⟩;have HB_1:=Lib.hid (below_then HB.out HB.out.size hb);have X_1:=Lib.hid (blk_below HX.out hb);clear hb))
      go_ret
      exact ⟨by rw [show o = false by rw [HIS.out,isF E3.out (fun G => by have h1:=G.fr i HLT.out;rw [← HBX.out] at h1;rw [Q3.out] at h1;cases h1)] <;> simp];rfl,HB_1.out⟩
     | true =>
      have Q3:=Lib.hid q3
      clear q3
      go_wp2_with (first | (go_at_call 75;refine (specValid_at f A8 c8 wr true Q3.out G8.out L8.out).mono ?_;rintro e w1 ⟨rfl,hb⟩;have HB_1:=Lib.hid (below_then HB.out HB.out.size hb);have X_1:=Lib.hid (blk_below HX.out hb);clear hb))
      go_roundw
      case rel => exact ⟨i + 1,HLT.out,by rw [HN.out];rfl,⟨fun j hj => by by_cases e : j = i;subst e;rw [← HBX.out];exact Q3.out;exact HF.out j (by omega)⟩,⟨X_1.out⟩,⟨HB_1.out⟩⟩
      case measure => rw [HN.out];have:=HLT.out;simp [intOf];omega
    ·have hii : i = h.fr.length:=by omega
     subst hii
     have b2 : decide ((h.fr.length : Int) < (h.fr.length : Int)) = false:=decide_eq_false (by omega)
     go_wp2_with (fail)
     clear y6 b2 hi
     go_loopw [4] (fun v4 wr => ∃ i : Nat,i ≤ h.ev.length ∧ v4 = .int .i64 i ∧ Aside0 (∀ j : Nat,j < i → evOk (rd_T56 h.ev (j : Int))) ∧ Aside0 (wr.heap[g1]? = some (.cells ⟨hostC h (.slice Af h.fs.length cf) (.slice Ab h.bs.length cb) (.slice Aq h.fr.length cq) (.slice Ae h.ev.length ce)⟩ 32 (0,0))) ∧ Aside0 (Below w.heap.size w wr)) (fun v4 _ => h.ev.length - (intOf v4).toNat)
     case atStart => exact ⟨0,Nat.zero_le _,rfl,⟨fun j hj => absurd hj (Nat.not_lt_zero _)⟩,⟨HX.out⟩,⟨HB.out⟩⟩
     case round =>
      clear HX HB
      obtain ⟨i,hi,rfl,HE,HX,HB⟩:=hrel
      have y7 : wr.cell? ⟨g1,7,none⟩ = some (.slice Ae h.ev.length ce):=blk_cell HX.out 7
      by_cases hlt : i < h.ev.length
      ·have b2 : decide ((i : Int) < (h.ev.length : Int)) = true:=decide_eq_true (by omega)
       have p5 : (0 ≤ (i : Int)) = True:=eq_true (by omega)
       have q5 : ((i : Int) < (h.ev.length : Int)) = True:=eq_true (by omega)
       have qn : (i < h.ev.length) = True:=eq_true hlt
       have hn : wrap64 ((i : Int) + 1) = (i : Int) + 1:=by have:=SM.out.l4;unfold wrap64;omega
       have HLT:=Lib.hid hlt
       have HI:=Lib.hid hi
       have HN:=Lib.hid hn
       obtain ⟨ad,A8,c8,ea,k0,k1,k2,k3,k4,k5,k6,k7,l8,g8⟩:=at_T56 (Kd.C_below RE.out HB.out) (i : Int) (by omega) (by omega)
       subst ea
       clear hlt hi
       rw [Int.toNat_natCast] at k0 k1 k2 k3 k4 k5 k6 k7
       obtain ⟨b,hb⟩ : ∃ b,b = rd_T56 h.ev (i : Int):=⟨_,rfl⟩
       rw [← hb] at k0 k1 k2 k3 k4 k5 k6 k7 l8 g8
       have HBX : Hid (b = rd_T56 h.ev (i : Int)):=Lib.hid hb
       have HD8 : Hid (b.f3.f4.length ≤ 10000000):=Lib.hid (by rw [hb];exact SM.out.d4 _ (List.mem_of_getElem? (getD_at h.ev i z56 HLT.out)))
       have L8:=Lib.hid l8
       have G8:=Lib.hid g8
       clear hb l8 g8
       have HW_0 : Hid (Below wr.heap.size wr wr):=Lib.hid (Below.refl _ _)
       go_upto_region 16 with (first | ((with_reducible refine gate_dst (N:=5) rfl ?_);refine box_event ?hg (N:=5) ?hd (cs := #[.int .i64 0, .int .i64 0, .int .i64 0, .bool false, .int .u32 0, .bool false, .int .i64 0, .slice none 0 0]) (t:=56) ?hr ?_;(case hd => rfl);(case hg => rfl);(case hr => first | (go_simp;done) | (go_simp;rfl));intro gb hg w1 hbox hb;have LO_HB_gb : Hid (w.heap.size ≤ gb):=Lib.hid (by rw [hg];exact HB.out.size);have LO_HW_gb : Hid (wr.heap.size ≤ gb):=Lib.hid (by rw [hg];exact HW_0.out.size);have NE_g1_gb : Hid (g1 ≠ gb):=Lib.hid (fun e => by have h1:=blk_lt HX.out;omega);have HEgb:=Lib.hid hg;have HB_1:=Lib.hid (below_then HB.out HB.out.size hb);have HW_1:=Lib.hid (below_then HW_0.out HW_0.out.size hb);have X_1:=Lib.hid (blk_below HX.out hb);have Xgb_1:=Lib.hid hbox;clear hg hbox hb) | ((with_reducible refine gate_store (t:=56) (p:=5) rfl ?_);refine store_box rfl rfl rfl (g:=gb) (j:=0) (cs := #[.int .i64 0, .int .i64 0, .int .i64 0, .bool false, .int .u32 0, .bool false, .int .i64 0, .slice none 0 0]) (cs':=⟨[.int .i64 b.f0, .int .i64 b.f1, .int .i64 b.f2, .bool b.f3.f0, .int .u32 b.f3.f1, .bool b.f3.f2, .int .i64 b.f3.f3, .slice A8 b.f3.f4.length c8]⟩) (seg := [.int .i64 b.f0, .int .i64 b.f1, .int .i64 b.f2, .bool b.f3.f0, .int .u32 b.f3.f1, .bool b.f3.f2, .int .i64 b.f3.f3, .slice A8 b.f3.f4.length c8]) rfl rfl Xgb_1.out rfl (by kernel_rfl) rfl rfl rfl ?_;intro w2 hx hT;have HB_2:=Lib.hid (hT.below HB_1.out HB_1.out.size (fun k hk => by rw [hk];exact LO_HB_gb.out));have HW_2:=Lib.hid (hT.below HW_1.out HW_1.out.size (fun k hk => by rw [hk];exact LO_HW_gb.out));have X_2:=Lib.hid (hT.blk X_1.out NE_g1_gb.out);have Xgb_2:=Lib.hid hx;clear hx hT))
       clear k0 k1 k2 k3 k4 k5 k6 k7 y7
       have y0 : w2.cell? ⟨gb,0,none⟩ = some (.int .i64 b.f0):=blk_cell Xgb_2.out 0
       have y1 : w2.cell? ⟨gb,1,none⟩ = some (.int .i64 b.f1):=blk_cell Xgb_2.out 1
       have y2 : w2.cell? ⟨gb,2,none⟩ = some (.int .i64 b.f2):=blk_cell Xgb_2.out 2
       have y3 : w2.cell? ⟨gb,3,none⟩ = some (.bool b.f3.f0):=blk_cell Xgb_2.out 3
       have y4 : w2.cell? ⟨gb,4,none⟩ = some (.int .u32 b.f3.f1):=blk_cell Xgb_2.out 4
       have y5 : w2.cell? ⟨gb,5,none⟩ = some (.bool b.f3.f2):=blk_cell Xgb_2.out 5
       have y6 : w2.cell? ⟨gb,6,none⟩ = some (.int .i64 b.f3.f3):=blk_cell Xgb_2.out 6
       have y7 : w2.cell? ⟨gb,7,none⟩ = some (.slice A8 b.f3.f4.length c8):=blk_cell Xgb_2.out 7
       by_cases u0 : b.f0 < 1
       ·have su0 : decide (b.f0 < 1) = true:=decide_eq_true u0
        have U0:=Lib.hid u0
        clear u0
        go_wp2_with (fail)
        go_ret
        exact ⟨by rw [show o = false by rw [HIS.out,isF E3.out (fun G => by have h1:=G.ev i HLT.out;rw [← HBX.out] at h1;obtain ⟨a1,a2,a3,a4,a5,a6,a7⟩:=h1;have:=U0.out;omega)] <;> simp];rfl,HB_2.out⟩
       have su0 : decide (b.f0 < 1) = false:=decide_eq_false u0
       have U0:=Lib.hid u0
       clear u0
       by_cases u1 : b.f0 > 12
       ·have su1 : decide (b.f0 > 12) = true:=decide_eq_true u1
        have U1:=Lib.hid u1
        clear u1
        go_wp2_with (fail)
        go_ret
        exact ⟨by rw [show o = false by rw [HIS.out,isF E3.out (fun G => by have h1:=G.ev i HLT.out;rw [← HBX.out] at h1;obtain ⟨a1,a2,a3,a4,a5,a6,a7⟩:=h1;have:=U1.out;omega)] <;> simp];rfl,HB_2.out⟩
       have su1 : decide (b.f0 > 12) = false:=decide_eq_false u1
       have U1:=Lib.hid u1
       clear u1
       by_cases u2 : b.f1 < 0
       ·have su2 : decide (b.f1 < 0) = true:=decide_eq_true u2
        have U2:=Lib.hid u2
        clear u2
        go_wp2_with (fail)
        go_ret
        exact ⟨by rw [show o = false by rw [HIS.out,isF E3.out (fun G => by have h1:=G.ev i HLT.out;rw [← HBX.out] at h1;obtain ⟨a1,a2,a3,a4,a5,a6,a7⟩:=h1;have:=U2.out;omega)] <;> simp];rfl,HB_2.out⟩
       have su2 : decide (b.f1 < 0) = false:=decide_eq_false u2
       have U2:=Lib.hid u2
       clear u2
       by_cases u3 : b.f1 > 9999
       ·have su3 : decide (b.f1 > 9999) = true:=decide_eq_true u3
        have U3:=Lib.hid u3
        clear u3
        go_wp2_with (fail)
        go_ret
        exact ⟨by rw [show o = false by rw [HIS.out,isF E3.out (fun G => by have h1:=G.ev i HLT.out;rw [← HBX.out] at h1;obtain ⟨a1,a2,a3,a4,a5,a6,a7⟩:=h1;have:=U3.out;omega)] <;> simp];rfl,HB_2.out⟩
       have su3 : decide (b.f1 > 9999) = false:=decide_eq_false u3
       have U3:=Lib.hid u3
       clear u3
       by_cases u4 : b.f2 < 0
       ·have su4 : decide (b.f2 < 0) = true:=decide_eq_true u4
        have U4:=Lib.hid u4
        clear u4
        go_wp2_with (fail)
        go_ret
        exact ⟨by rw [show o = false by rw [HIS.out,isF E3.out (fun G => by have h1:=G.ev i HLT.out;rw [← HBX.out] at h1;obtain ⟨a1,a2,a3,a4,a5,a6,a7⟩:=h1;have:=U4.out;omega)] <;> simp];rfl,HB_2.out⟩
       have su4 : decide (b.f2 < 0) = false:=decide_eq_false u4
       have U4:=Lib.hid u4
       clear u4
       by_cases u5 : b.f2 > 9
       ·have su5 : decide (b.f2 > 9) = true:=decide_eq_true u5
        have U5:=Lib.hid u5
        clear u5
        go_wp2_with (fail)
        go_ret
        exact ⟨by rw [show o = false by rw [HIS.out,isF E3.out (fun G => by have h1:=G.ev i HLT.out;rw [← HBX.out] at h1;obtain ⟨a1,a2,a3,a4,a5,a6,a7⟩:=h1;have:=U5.out;omega)] <;> simp];rfl,HB_2.out⟩
       have su5 : decide (b.f2 > 9) = false:=decide_eq_false u5
       have U5:=Lib.hid u5
       clear u5
       cases q3 : zeroB b.f3 with
       | true =>
        have Q3:=Lib.hid q3
        clear q3
        go_wp2_with (first | (go_at_call 127;refine (specZero_at b.f3 A8 c8 w2 true Q3.out (Kd.C_below G8.out HW_2.out) L8.out).mono ?_;rintro e w3 ⟨rfl,hb⟩;have HB_3:=Lib.hid (below_then HB_2.out HB_2.out.size hb);have HW_3:=Lib.hid (below_then HW_2.out HW_2.out.size hb);have X_3:=Lib.hid (blk_below X_2.out hb);have Xgb_3:=Lib.hid (blk_below Xgb_2.out hb);clear hb))
        go_roundw
        case rel => exact ⟨i + 1,HLT.out,by rw [HN.out];rfl,⟨fun j hj => by by_cases e : j = i;subst e;rw [← HBX.out];exact ⟨by have:=U0.out;omega,by have:=U1.out;omega,by have:=U2.out;omega,by have:=U3.out;omega,by have:=U4.out;omega,by have:=U5.out;omega, .inl Q3.out⟩;exact HE.out j (by omega)⟩,⟨X_3.out⟩,⟨HB_3.out⟩⟩
        case measure => rw [HN.out];have:=HLT.out;simp [intOf];omega
       | false =>
        have Q3:=Lib.hid q3
        clear q3
        cases q4 : valF b.f3 with
        | true =>
         have Q4:=Lib.hid q4
         clear q4
         go_wp2_with (first | (go_at_call 127;refine (specZero_at b.f3 A8 c8 w2 false Q3.out (Kd.C_below G8.out HW_2.out) L8.out).mono ?_;rintro e w3 ⟨rfl,hb⟩;have HB_3:=Lib.hid (below_then HB_2.out HB_2.out.size hb);have HW_3:=Lib.hid (below_then HW_2.out HW_2.out.size hb);have X_3:=Lib.hid (blk_below X_2.out hb);have Xgb_3:=Lib.hid (blk_below Xgb_2.out hb);have x3 : w3.cell? ⟨gb,3,none⟩ = some (.bool b.f3.f0):=blk_cell Xgb_3.out 3;have x4 : w3.cell? ⟨gb,4,none⟩ = some (.int .u32 b.f3.f1):=blk_cell Xgb_3.out 4;have x5 : w3.cell? ⟨gb,5,none⟩ = some (.bool b.f3.f2):=blk_cell Xgb_3.out 5;have x6 : w3.cell? ⟨gb,6,none⟩ = some (.int .i64 b.f3.f3):=blk_cell Xgb_3.out 6;have x7 : w3.cell? ⟨gb,7,none⟩ = some (.slice A8 b.f3.f4.length c8):=blk_cell Xgb_3.out 7;clear hb) | (go_at_call 75;refine (specValid_at b.f3 A8 c8 w3 true Q4.out (Kd.C_below G8.out HW_3.out) L8.out).mono ?_;rintro e w4 ⟨rfl,hb⟩;have HB_4:=Lib.hid (below_then HB_3.out HB_3.out.size hb);have HW_4:=Lib.hid (below_then HW_3.out HW_3.out.size hb);have X_4:=Lib.hid (blk_below X_3.out hb);have Xgb_4:=Lib.hid (blk_below Xgb_3.out hb);clear hb))
         go_roundw
         case rel => exact ⟨i + 1,HLT.out,by rw [HN.out];rfl,⟨fun j hj => by by_cases e : j = i;subst e;rw [← HBX.out];exact ⟨by have:=U0.out;omega,by have:=U1.out;omega,by have:=U2.out;omega,by have:=U3.out;omega,by have:=U4.out;omega,by have:=U5.out;omega, .inr Q4.out⟩;exact HE.out j (by omega)⟩,⟨X_4.out⟩,⟨HB_4.out⟩⟩
         case measure => rw [HN.out];have:=HLT.out;simp [intOf];omega
        | false =>
         have Q4:=Lib.hid q4
         clear q4
         go_wp2_with (first | (go_at_call 127;refine (specZero_at b.f3 A8 c8 w2 false Q3.out (Kd.C_below G8.out HW_2.out) L8.out).mono ?_;rintro e w3 ⟨rfl,hb⟩;have HB_3:=Lib.hid (below_then HB_2.out HB_2.out.size hb);have HW_3:=Lib.hid (below_then HW_2.out HW_2.out.size hb);have X_3:=Lib.hid (blk_below X_2.out hb);have Xgb_3:=Lib.hid (blk_below Xgb_2.out hb);have x3 : w3.cell? ⟨gb,3,none⟩ = some (.bool b.f3.f0):=blk_cell Xgb_3.out 3;have x4 : w3.cell? ⟨gb,4,none⟩ = some (.int .u32 b.f3.f1):=blk_cell Xgb_3.out 4;have x5 : w3.cell? ⟨gb,5,none⟩ = some (.bool b.f3.f2):=blk_cell Xgb_3.out 5;have x6 : w3.cell? ⟨gb,6,none⟩ = some (.int .i64 b.f3.f3):=blk_cell Xgb_3.out 6;have x7 : w3.cell? ⟨gb,7,none⟩ = some (.slice A8 b.f3.f4.length c8):=blk_cell Xgb_3.out 7;clear hb) | (go_at_call 75;refine (specValid_at b.f3 A8 c8 w3 false Q4.out (Kd.C_below G8.out HW_3.out) L8.out).mono ?_;rintro e w4 ⟨rfl,hb⟩;have HB_4:=Lib.hid (below_then HB_3.out HB_3.out.size hb);have HW_4:=Lib.hid (below_then HW_3.out HW_3.out.size hb);have X_4:=Lib.hid (blk_below X_3.out hb);have Xgb_4:=Lib.hid (blk_below Xgb_3.out hb);clear hb))
         go_ret
         exact ⟨by rw [show o = false by rw [HIS.out,isF E3.out (fun G => by have h1:=G.ev i HLT.out;rw [← HBX.out] at h1;obtain ⟨a1,a2,a3,a4,a5,a6,a7⟩:=h1;rcases a7 with a7 | a7;rw [Q3.out] at a7;cases a7;rw [Q4.out] at a7;cases a7)] <;> simp];rfl,HB_4.out⟩
      ·have hii : i = h.ev.length:=by omega
       subst hii
       have b2 : decide ((h.ev.length : Int) < (h.ev.length : Int)) = false:=decide_eq_false (by omega)
       go_wp2_with (first | ((with_reducible refine gate_dst (N:=123) rfl ?_);refine load_all rfl rfl (g:=g1) rfl HX.out hu32.out (by kernel_rfl) ?_) | (go_at_call 128;refine (specOkBoxes_v h o4 E4.out wr _ (RR.out.below HB.out) SM.out).mono ?_;rintro e w1 ⟨rfl,hb⟩;have HB_1:=Lib.hid (below_then HB.out HB.out.size hb);have X_1:=Lib.hid (blk_below HX.out hb);clear hb))
       go_ret
       have G : GoodL h:=⟨Classical.not_not.1 P0.out,by have:=Q0.out;omega,by have:=Q1.out;omega,HF.out,HE.out⟩
       have e : o = o4:=by rw [HIS.out,E3.out.2 G,show decide (0 ≤ h.lost) = true from decide_eq_true (by have:=R0.out;omega),show decide (h.lost ≤ 100000) = true from decide_eq_true (by have:=R1.out;omega),show decide (0 ≤ h.stamp) = true from decide_eq_true (by have:=R2.out;omega),show decide (h.stamp ≤ 1000000) = true from decide_eq_true (by have:=R3.out;omega)];simp
       exact ⟨by rw [e];rfl,HB_1.out⟩
def BestOf (h : HV) (o : Bool) (r : Int) : Prop:=(o = true → IsBest h.bs h.bs.length r) ∧ (o = false → r = -1)
theorem BestOf.total (h : HV) (o : Bool) (G : o = true → GoodH h) : ∃ r,BestOf h o r:=by
 cases o with
 | false => exact ⟨-1,fun q => (by cases q),fun _ => rfl⟩
 | true =>
  obtain ⟨r,hr⟩:=IsBest.total h.bs (G rfl).B.stamp h.bs.length (Nat.le_refl _)
  exact ⟨r,fun _ => hr,fun q => by cases q⟩
set_option maxRecDepth 100000 in
set_option maxHeartbeats 4000000 in
theorem implBest_v (h : HV) (o o1 o2 o3 o4 : Bool) (hO : OkH h o o1 o2 o3 o4) (hq : ∀ y ∈ h.bs,0 ≤ y.f3.f1 ∧ okBytes y.f3.f4 = true) (r : Int) (hr : BestOf h o r) (w : World) (C : List Value) (hR : HRead w h C) (hS : HSm h) :
  Calls Try.prog 27 #[.agg ⟨C⟩] w fun e w' => e = .returned (.int .i64 r) ∧ Below w.heap.size w w':=by
 have RR:=Lib.hid hR
 have HI : Hid ((Try.prog.info? 32).map (·.size) = some C.length):=Lib.hid (by rw [hR.len];kernel_rfl)
 have SM:=Lib.hid hS
 have HOK:=Lib.hid hO
 have HQ:=Lib.hid hq
 have HRB:=Lib.hid hr
 have HB_0 : Hid (Below w.heap.size w w):=Lib.hid (Below.refl _ _)
 have hu:=Lib.hid Try.underlying32
 clear hR hS hO hq hr
 cases o with
 | false =>
  go_enter Try.func27,Try.ntmps27
  go_upto_region 1 with (first | ((with_reducible refine gate_dst (N:=1) rfl ?_);refine box_event ?hg (N:=1) ?hd (cs:=⟨C⟩) (t:=32) ?hr ?_;(case hd => rfl);(case hg => rfl);(case hr => first | (go_simp;done) | (go_simp;rfl));intro g1 hg w1 hbox hb;have LO_HB_g1 : Hid (w.heap.size ≤ g1):=Lib.hid (by rw [hg];exact HB_0.out.size);have HEg1:=Lib.hid hg;have HB_1:=Lib.hid (below_then HB_0.out HB_0.out.size hb);have Xg1_1:=Lib.hid hbox;clear hg hbox hb))
  go_wp2_with (first | ((with_reducible refine gate_dst (N:=3) rfl ?_);refine load_all rfl rfl (g:=g1) rfl Xg1_1.out hu.out HI.out ?_) | (go_at_call 76;refine (goodHost_v h false o1 o2 o3 o4 HOK.out w1 C (RR.out.below HB_1.out) SM.out).mono ?_;rintro e w2 ⟨rfl,hb⟩;have HB_2:=Lib.hid (below_then HB_1.out HB_1.out.size hb);have Xg1_2:=Lib.hid (blk_below Xg1_1.out hb);clear hb))
  go_ret
  exact ⟨by rw [HRB.out.2 rfl];rfl,HB_2.out⟩
 | true =>
  have G:=Lib.hid HOK.out.good
  go_enter Try.func27,Try.ntmps27
  go_upto_region 1 with (first | ((with_reducible refine gate_dst (N:=1) rfl ?_);refine box_event ?hg (N:=1) ?hd (cs:=⟨C⟩) (t:=32) ?hr ?_;(case hd => rfl);(case hg => rfl);(case hr => first | (go_simp;done) | (go_simp;rfl));intro g1 hg w1 hbox hb;have LO_HB_g1 : Hid (w.heap.size ≤ g1):=Lib.hid (by rw [hg];exact HB_0.out.size);have HEg1:=Lib.hid hg;have HB_1:=Lib.hid (below_then HB_0.out HB_0.out.size hb);have Xg1_1:=Lib.hid hbox;clear hg hbox hb))
  go_upto_region 3 with (first | ((with_reducible refine gate_dst (N:=3) rfl ?_);refine load_all rfl rfl (g:=g1) rfl Xg1_1.out hu.out HI.out ?_) | (go_at_call 76;refine (goodHost_v h true o1 o2 o3 o4 HOK.out w1 C (RR.out.below HB_1.out) SM.out).mono ?_;rintro e w2 ⟨rfl,hb⟩;have HB_2:=Lib.hid (below_then HB_1.out HB_1.out.size hb);have Xg1_2:=Lib.hid (blk_below Xg1_1.out hb);clear hb))
  go_wp2_with (first | ((with_reducible refine gate_dst (N:=6) rfl ?_);refine load_all rfl rfl (g:=g1) rfl Xg1_2.out hu.out HI.out ?_) | (go_at_call 63;refine (open_v w2 h C (RR.out.below HB_2.out) G.out.fits).mono ?_;rintro e w3 ⟨p,m,vf,vb,vq,ve,rfl,hs⟩;have hb:=hs.bel;have HS0:=Lib.hid hs;clear hs;have HB_3:=Lib.hid (below_then HB_2.out HB_2.out.size hb);have Xg1_3:=Lib.hid (blk_below Xg1_2.out hb);clear hb) | (go_at_call 79;refine (best_v w2 w3 p m h h.cf h.ce vf vb vq ve _ _ HS0.out (Nat.le_trans G.out.small.l2 (by decide)) (fun y hy => Nat.le_trans (G.out.b8 y hy) (by decide)) HQ.out G.out.B.stamp r (HRB.out.1 rfl)).mono ?_;rintro e w4 ⟨rfl,hb⟩;have HB_4:=Lib.hid (below_then HB_3.out HB_3.out.size hb);have Xg1_4:=Lib.hid (blk_below Xg1_3.out hb);clear hb))
  go_ret
  exact ⟨rfl,HB_4.out⟩
set_option maxRecDepth 100000 in
set_option maxHeartbeats 4000000 in
theorem specBest_v (h : HV) (o o1 o2 o3 o4 : Bool) (hO : OkH h o o1 o2 o3 o4) (hq : ∀ y ∈ h.bs,0 ≤ y.f3.f1 ∧ okBytes y.f3.f4 = true) (r : Int) (hr : BestOf h o r) (w : World) (C : List Value) (hR : HRead w h C) (hS : HSm h) :
  Calls Try.prog 33 #[.agg ⟨C⟩] w fun e w' => e = .returned (.int .i64 r) ∧ Below w.heap.size w w':=by
 have RR:=Lib.hid hR
 have HI : Hid ((Try.prog.info? 32).map (·.size) = some C.length):=Lib.hid (by rw [hR.len];kernel_rfl)
 have SM:=Lib.hid hS
 have HOK:=Lib.hid hO
 have HQ:=Lib.hid hq
 have HRB:=Lib.hid hr
 have HB_0 : Hid (Below w.heap.size w w):=Lib.hid (Below.refl _ _)
 have hu:=Lib.hid Try.underlying32
 clear hR hS hO hq hr
 cases o with
 | false =>
  go_enter Try.func33,Try.ntmps33
  go_upto_region 1 with (first | ((with_reducible refine gate_dst (N:=1) rfl ?_);refine box_event ?hg (N:=1) ?hd (cs:=⟨C⟩) (t:=32) ?hr ?_;(case hd => rfl);(case hg => rfl);(case hr => first | (go_simp;done) | (go_simp;rfl));intro g1 hg w1 hbox hb;have LO_HB_g1 : Hid (w.heap.size ≤ g1):=Lib.hid (by rw [hg];exact HB_0.out.size);have HEg1:=Lib.hid hg;have HB_1:=Lib.hid (below_then HB_0.out HB_0.out.size hb);have Xg1_1:=Lib.hid hbox;clear hg hbox hb))
  go_wp2_with (first | ((with_reducible refine gate_dst (N:=3) rfl ?_);refine load_all rfl rfl (g:=g1) rfl Xg1_1.out hu.out HI.out ?_) | (go_at_call 86;refine (specOk_v h false o1 o2 o3 o4 HOK.out w1 C (RR.out.below HB_1.out) SM.out).mono ?_;rintro e w2 ⟨rfl,hb⟩;have HB_2:=Lib.hid (below_then HB_1.out HB_1.out.size hb);have Xg1_2:=Lib.hid (blk_below Xg1_1.out hb);clear hb))
  go_ret
  exact ⟨by rw [HRB.out.2 rfl];rfl,HB_2.out⟩
 | true =>
  have G:=Lib.hid HOK.out.good
  go_enter Try.func33,Try.ntmps33
  go_upto_region 1 with (first | ((with_reducible refine gate_dst (N:=1) rfl ?_);refine box_event ?hg (N:=1) ?hd (cs:=⟨C⟩) (t:=32) ?hr ?_;(case hd => rfl);(case hg => rfl);(case hr => first | (go_simp;done) | (go_simp;rfl));intro g1 hg w1 hbox hb;have LO_HB_g1 : Hid (w.heap.size ≤ g1):=Lib.hid (by rw [hg];exact HB_0.out.size);have HEg1:=Lib.hid hg;have HB_1:=Lib.hid (below_then HB_0.out HB_0.out.size hb);have Xg1_1:=Lib.hid hbox;clear hg hbox hb))
  go_upto_region 3 with (first | ((with_reducible refine gate_dst (N:=3) rfl ?_);refine load_all rfl rfl (g:=g1) rfl Xg1_1.out hu.out HI.out ?_) | (go_at_call 86;refine (specOk_v h true o1 o2 o3 o4 HOK.out w1 C (RR.out.below HB_1.out) SM.out).mono ?_;rintro e w2 ⟨rfl,hb⟩;have HB_2:=Lib.hid (below_then HB_1.out HB_1.out.size hb);have Xg1_2:=Lib.hid (blk_below Xg1_1.out hb);clear hb))
  go_wp2_with (first | ((with_reducible refine gate_dst (N:=6) rfl ?_);refine load_all rfl rfl (g:=g1) rfl Xg1_2.out hu.out HI.out ?_) | (go_at_call 87;refine (l3best_v h w2 C (RR.out.below HB_2.out) SM.out.l2 HQ.out r (HRB.out.1 rfl)).mono ?_;rintro e w3 ⟨rfl,hb⟩;have HB_3:=Lib.hid (below_then HB_2.out HB_2.out.size hb);have Xg1_3:=Lib.hid (blk_below Xg1_2.out hb);clear hb))
  go_ret
  exact ⟨rfl,HB_3.out⟩
end Go.Proofs.Ytcaefabbcjlkdaa.P
namespace Go.Proofs.Ytcaefabbcjlkdaa.P
open Go.RowKit Go.Proofs.YtcaefabbcjlkdaaW.PrintWords Go.Proofs.YtcaefabbcjlkdaaW.PrintLast Go.Proofs.YtcaefabbcjlkdaaW.PrintMore
set_option linter.unusedVariables false
set_option linter.unusedSimpArgs false
def b23 (x : S23) : Prop:=(Lit.int .i64 x.f0).wf = true ∧ (Lit.int .i64 x.f1).wf = true ∧ (Lit.int .i64 x.f2).wf = true ∧ (Lit.int .i64 x.f3).wf = true
theorem reads23 : Reads Try.prog 23 k23 b23:=reads_struct (fun x : S23 => (x.f0,x.f1,x.f2,x.f3)) (fun y => ⟨y.1,y.2.1,y.2.2.1,y.2.2.2⟩) (fun _ => rfl) Try.underlying23 (by kernel_rfl) (rf_cons rfl (by kernel_rfl) (reads_int Try.underlying3) (rf_cons rfl (by kernel_rfl) (reads_int Try.underlying3) (rf_cons rfl (by kernel_rfl) (reads_int Try.underlying3) (rf_last rfl (by kernel_rfl) (reads_int Try.underlying3)))))
def b91 (x : S91) : Prop:=True ∧ (Lit.int .u32 x.f1).wf = true ∧ (Lit.int .u32 x.f2).wf = true
theorem reads91 : Reads Try.prog 91 k91 b91:=reads_struct (fun x : S91 => (x.f0,x.f1,x.f2)) (fun y => ⟨y.1,y.2.1,y.2.2⟩) (fun _ => rfl) Try.underlying91 (by kernel_rfl) (rf_cons rfl (by kernel_rfl) (reads_bool Try.underlying4) (rf_cons rfl (by kernel_rfl) (reads_int Try.underlying43) (rf_last rfl (by kernel_rfl) (reads_int Try.underlying43))))
def b77 (x : S77) : Prop:=True ∧ (Lit.int .u32 x.f1).wf = true ∧ True ∧ (Lit.int .i64 x.f3).wf = true ∧ (x.f4.length ≤ maxLen ∧ ∀ y_ ∈ x.f4,(Lit.int .u8 y_).wf = true)
theorem reads77 : Reads Try.prog 77 k77 b77:=reads_struct (fun x : S77 => (x.f0,x.f1,x.f2,x.f3,x.f4)) (fun y => ⟨y.1,y.2.1,y.2.2.1,y.2.2.2.1,y.2.2.2.2⟩) (fun _ => rfl) Try.underlying77 (by kernel_rfl) (rf_cons rfl (by kernel_rfl) (reads_bool Try.underlying4) (rf_cons rfl (by kernel_rfl) (reads_int Try.underlying43) (rf_cons rfl (by kernel_rfl) (reads_bool Try.underlying4) (rf_cons rfl (by kernel_rfl) (reads_int Try.underlying3) (rf_last rfl (by kernel_rfl) (reads_slice Try.underlying42 (by kernel_rfl) (reads_int Try.underlying5)))))))
def b141 (x : S141) : Prop:=(Lit.int .i64 x.f0).wf = true ∧ (Lit.int .i64 x.f1).wf = true ∧ (Lit.int .i64 x.f2).wf = true ∧ b77 x.f3
theorem reads141 : Reads Try.prog 141 k141 b141:=reads_struct (fun x : S141 => (x.f0,x.f1,x.f2,x.f3)) (fun y => ⟨y.1,y.2.1,y.2.2.1,y.2.2.2⟩) (fun _ => rfl) Try.underlying141 (by kernel_rfl) (rf_cons rfl (by kernel_rfl) (reads_int Try.underlying3) (rf_cons rfl (by kernel_rfl) (reads_int Try.underlying3) (rf_cons rfl (by kernel_rfl) (reads_int Try.underlying3) (rf_last rfl (by kernel_rfl) reads77))))
def b144 (x : S144) : Prop:=(Lit.int .i64 x.f0).wf = true ∧ (Lit.int .i64 x.f1).wf = true ∧ (Lit.int .i64 x.f2).wf = true ∧ b77 x.f3
theorem reads144 : Reads Try.prog 144 k144 b144:=reads_struct (fun x : S144 => (x.f0,x.f1,x.f2,x.f3)) (fun y => ⟨y.1,y.2.1,y.2.2.1,y.2.2.2⟩) (fun _ => rfl) Try.underlying144 (by kernel_rfl) (rf_cons rfl (by kernel_rfl) (reads_int Try.underlying3) (rf_cons rfl (by kernel_rfl) (reads_int Try.underlying3) (rf_cons rfl (by kernel_rfl) (reads_int Try.underlying3) (rf_last rfl (by kernel_rfl) reads77))))
def b63 (x : S63) : Prop:=b23 x.f0 ∧ (x.f1.length ≤ maxLen ∧ ∀ y_ ∈ x.f1,b91 y_) ∧ (x.f2.length ≤ maxLen ∧ ∀ y_ ∈ x.f2,b141 y_) ∧ (x.f3.length ≤ maxLen ∧ ∀ y_ ∈ x.f3,b77 y_) ∧ (x.f4.length ≤ maxLen ∧ ∀ y_ ∈ x.f4,b144 y_) ∧ (Lit.int .i64 x.f5).wf = true ∧ (Lit.int .i64 x.f6).wf = true
theorem reads63 : Reads Try.prog 63 k63 b63:=reads_struct (fun x : S63 => (x.f0,x.f1,x.f2,x.f3,x.f4,x.f5,x.f6)) (fun y => ⟨y.1,y.2.1,y.2.2.1,y.2.2.2.1,y.2.2.2.2.1,y.2.2.2.2.2.1,y.2.2.2.2.2.2⟩) (fun _ => rfl) Try.underlying63 (by kernel_rfl) (rf_cons rfl (by kernel_rfl) reads23 (rf_cons rfl (by kernel_rfl) (reads_slice Try.underlying24 (by kernel_rfl) reads91) (rf_cons rfl (by kernel_rfl) (reads_slice Try.underlying59 (by kernel_rfl) reads141) (rf_cons rfl (by kernel_rfl) (reads_slice Try.underlying60 (by kernel_rfl) reads77) (rf_cons rfl (by kernel_rfl) (reads_slice Try.underlying61 (by kernel_rfl) reads144) (rf_cons rfl (by kernel_rfl) (reads_int Try.underlying3) (rf_last rfl (by kernel_rfl) (reads_int Try.underlying3))))))))
end Go.Proofs.Ytcaefabbcjlkdaa.P
namespace Go.Proofs.Ytcaefabbcjlkdaa.Pure
open Go Go.RowKit Go.Proofs.Ytcaefabbcjlkdaa.P Go.Proofs.YtcaefabbcjlkdaaW.PrintWords Go.Proofs.YtcaefabbcjlkdaaW.PrintLast Go.Proofs.YtcaefabbcjlkdaaW.PrintMore
set_option linter.unusedVariables false
set_option linter.unusedSimpArgs false
theorem lb_of (x : S63) (h : b63 x) : LB x:=by
 obtain ⟨_,h1,h2,h3,h4,_,_⟩:=h
 exact ⟨h1.1,h2.1,h3.1,h4.1,fun y hy => (h2.2 y hy).2.2.2.2.2.2.2.1,fun y hy => (h3.2 y hy).2.2.2.2.1,fun y hy => (h4.2 y hy).2.2.2.2.2.2.2.1⟩
theorem bq_of (x : S63) (h : b63 x) : ∀ y ∈ (hvOf x).bs,0 ≤ y.f3.f1 ∧ okBytes y.f3.f4 = true:=by
 intro y hy
 obtain ⟨z,hz,rfl⟩:=List.mem_map.1 hy
 obtain ⟨_,_,h2,_⟩:=h
 have q:=(h2.2 z hz).2.2.2
 exact frame_ok q.2.1 q.2.2.2.2.2
theorem HOwn.one {w : World} {base : Nat} {ok : Nat → Prop} {h : HV} {C : List Value} (H : HOwn w base ok h C) : ∀ u ∈ C,u.oneCell' = true:=HRead.one H.read
set_option maxRecDepth 100000 in
set_option maxHeartbeats 8000000 in
theorem FnExactBest_walk (x0 : S63) (hB0 : b63 x0) (w : World) (C0 : List Value) (hK0 : k63.K w x0 C0) :
  Calls Try.prog 5 #[.agg ⟨C0⟩] w fun e w' => e = .returned (.bool true) ∧ Below w.heap.size w w':=by
 have hu63:=Lib.hid Try.underlying63
 have hu32:=Lib.hid Try.underlying32
 have HI0 : Hid ((Try.prog.info? 63).map (·.size) = some C0.length):=Lib.hid (by obtain ⟨A4,c4,A5,c5,A6,c6,A7,c7,e,_⟩:=k63_open hK0;rw [e];kernel_rfl)
 have HK : Hid (∀ w',Below w.heap.size w w' → k63.K w' x0 C0):=Lib.hid (fun w' hb => K_host_below hK0 hb)
 have HB_0 : Hid (Below w.heap.size w w):=Lib.hid (Below.refl _ _)
 obtain ⟨r,hr,hsz⟩:=szHost_all x0 1048576 (lb_of x0 hB0) (by decide) (by decide)
 have HSZ:=Lib.hid hsz
 have HQ0:=Lib.hid (bq_of x0 hB0)
 clear hsz hB0 hK0
 rcases hr with rfl | ⟨h0,hle,hF⟩
 ·obtain ⟨r,hr⟩ : ∃ r : Int,r = -1:=⟨_,rfl⟩
  rw [← hr] at HSZ
  have cr : decide (r < 0) = true:=decide_eq_true (by omega)
  clear hr
  go_enter Try.func5,Try.ntmps5
  go_upto_region 1 with (first | ((with_reducible refine gate_dst (N:=1) rfl ?_);refine box_event ?hg (N:=1) ?hd (cs:=⟨C0⟩) (t:=63) ?hr ?_;(case hd => rfl);(case hg => rfl);(case hr => first | (go_simp;done) | (go_simp;rfl));intro g2 hg w1 hbox hb;have HB_1:=Lib.hid (below_then HB_0.out HB_0.out.size hb);have G2_1:=Lib.hid hbox;clear hg hbox hb))
  go_wp2_with (first | ((with_reducible refine gate_dst (N:=7) rfl ?_);refine load_all rfl rfl (g:=g2) rfl G2_1.out hu63.out HI0.out ?_) | (go_at_call 32;refine (HSZ.out w1 C0 (HK.out _ HB_1.out)).mono ?_;rintro e w2 ⟨rfl,hb⟩;have HB_2:=Lib.hid (below_then HB_1.out HB_1.out.size hb);have G2_2:=Lib.hid (blk_below G2_1.out hb);clear hb))
  go_ret
  exact ⟨rfl,HB_2.out⟩
 ·have cr : decide (r < 0) = false:=decide_eq_false (by omega)
  have F:=Lib.hid hF
  clear h0 hle hF
  obtain ⟨h,hh⟩ : ∃ h,h = hvOf x0:=⟨_,rfl⟩
  have HH:=Lib.hid hh
  have SM : Hid (HSm h):=Lib.hid (by rw [hh];exact F.out.sm)
  have HQ : Hid (∀ y ∈ h.bs,0 ≤ y.f3.f1 ∧ okBytes y.f3.f4 = true):=Lib.hid (by rw [hh];exact HQ0.out)
  clear hh
  obtain ⟨o,o1,o2,o3,o4,hO⟩:=OkH.total h SM.out.l1
  have OK:=Lib.hid hO
  clear hO
  obtain ⟨rb,hrb⟩:=BestOf.total h o (fun e => OkH.good (by rw [← e];exact OK.out))
  have RB:=Lib.hid hrb
  clear hrb
  go_enter Try.func5,Try.ntmps5
  go_upto_region 1 with (first | ((with_reducible refine gate_dst (N:=1) rfl ?_);refine box_event ?hg (N:=1) ?hd (cs:=⟨C0⟩) (t:=63) ?hr ?_;(case hd => rfl);(case hg => rfl);(case hr => first | (go_simp;done) | (go_simp;rfl));intro g2 hg w1 hbox hb;have HB_1:=Lib.hid (below_then HB_0.out HB_0.out.size hb);have G2_1:=Lib.hid hbox;clear hg hbox hb))
  go_upto_region 5 with (first | ((with_reducible refine gate_dst (N:=7) rfl ?_);refine load_all rfl rfl (g:=g2) rfl G2_1.out hu63.out HI0.out ?_) | (go_at_call 32;refine (HSZ.out w1 C0 (HK.out _ HB_1.out)).mono ?_;rintro e w2 ⟨rfl,hb⟩;have HB_2:=Lib.hid (below_then HB_1.out HB_1.out.size hb);have G2_2:=Lib.hid (blk_below G2_1.out hb);clear hb))
  go_upto_region 6 with (first | ((with_reducible refine gate_dst (N:=12) rfl ?_);refine load_all rfl rfl (g:=g2) rfl G2_2.out hu63.out HI0.out ?_) | (go_at_call 34;refine (toHost_v x0 F.out w2 C0 (HK.out _ HB_2.out)).mono ?_;rintro e w3 ⟨Ca,rfl,ho,hb⟩;rw [← HH.out] at ho;have HA_3:=Lib.hid ho;have HB_3:=Lib.hid (below_then HB_2.out HB_2.out.size hb);have G2_3:=Lib.hid (blk_below G2_2.out hb);clear ho hb) | (go_at_call 33;refine (specBest_v h o o1 o2 o3 o4 OK.out HQ.out rb RB.out w3 Ca HA_3.out.read SM.out).mono ?_;rintro e w4 ⟨rfl,hb⟩;have HB_4:=Lib.hid (below_then HB_3.out HB_3.out.size hb);have G2_4:=Lib.hid (blk_below G2_3.out hb);clear hb))
  go_upto_region 7 with (first | ((with_reducible refine gate_dst (N:=15) rfl ?_);refine load_all rfl rfl (g:=g2) rfl G2_4.out hu63.out HI0.out ?_) | (go_at_call 34;refine (toHost_v x0 F.out w4 C0 (HK.out _ HB_4.out)).mono ?_;rintro e w5 ⟨Cx,rfl,ho,hb⟩;rw [← HH.out] at ho;have HX_5:=Lib.hid ho.bound;have HB_5:=Lib.hid (below_then HB_4.out HB_4.out.size hb);have G2_5:=Lib.hid (blk_below G2_4.out hb);clear ho hb) | ((with_reducible refine gate_dst (N:=5) rfl ?_);refine box_event ?hg (N:=5) ?hd (cs:=⟨[.int .i64 0, .int .i64 0, .int .i64 0, .int .i64 0, .slice none 0 0, .slice none 0 0, .slice none 0 0, .slice none 0 0, .int .i64 0, .int .i64 0]⟩) (t:=32) ?hr ?_;(case hd => rfl);(case hg => rfl);(case hr => first | (go_simp;done) | (go_simp;rfl));intro g7 hg w6 hbox hb;have HB_6:=Lib.hid (below_then HB_5.out HB_5.out.size hb);have G2_6:=Lib.hid (blk_below G2_5.out hb);have HX_6:=Lib.hid (HX_5.out.below hb);have Z_6:=Lib.hid hbox;have HEg7:=Lib.hid hg;have HN7 : Hid (∀ k o,w5.heap[k]? = some o → k ≠ g7):=Lib.hid (fun k o h e => by have h1:=blk_lt h;omega);have LO7 : Hid (w.heap.size ≤ g7):=Lib.hid (by rw [hg];exact HB_5.out.size);clear hg hbox hb) | ((with_reducible refine gate_store (t:=32) (p:=5) rfl ?_);refine store_all rfl rfl rfl (g:=g7) (C:=Cx) rfl rfl Z_6.out (by rw [HX_6.out.read.len];kernel_rfl) (HOwn.one HX_6.out) HX_6.out.read.len.symm ?_;intro w7 hx hT;have G7_7:=Lib.hid hx;have HB_7:=Lib.hid (hT.below HB_6.out HB_6.out.size (fun k hk => by rw [hk];exact LO7.out));have G2_7:=Lib.hid (hT.blk G2_6.out (fun e => HN7.out _ _ G2_5.out e));have HX_7:=Lib.hid (HX_6.out.tch hT (fun k hk e => by have h1:=hk.2.2.1;have h2:=HEg7.out;have h3:=Nat.le_refl 0;omega));clear hx hT))
  go_upto_region 8 with (first | ((with_reducible refine gate_dst (N:=17) rfl ?_);refine load_all rfl rfl (g:=g7) rfl G7_7.out hu32.out (by rw [HX_7.out.read.len];kernel_rfl) ?_) | (go_at_call 27;refine (implBest_v h o o1 o2 o3 o4 OK.out HQ.out rb RB.out w7 Cx HX_7.out.read SM.out).mono ?_;rintro e w8 ⟨rfl,hb⟩;have HB_8:=Lib.hid (below_then HB_7.out HB_7.out.size hb);have G2_8:=Lib.hid (blk_below G2_7.out hb);have G7_8:=Lib.hid (blk_below G7_7.out hb);have HX_8:=Lib.hid (HX_7.out.below hb);clear hb))
  have c9 : (rb == rb) = true:=beq_self_eq_true _
  have c10 : (rb != rb) = false:=by rw [bne,c9];rfl
  go_upto_region 10 with (fail)
  obtain ⟨wd,hwd⟩ : ∃ wd,wd = w8.drew:=⟨_,rfl⟩
  have hb : Below w8.heap.size w8 wd:=by rw [hwd];exact below_drew (Below.refl _ _)
  have HB_9:=Lib.hid (below_then HB_8.out HB_8.out.size hb)
  have G2_9:=Lib.hid (blk_below G2_8.out hb)
  have G7_9:=Lib.hid (blk_below G7_8.out hb)
  have HX_9:=Lib.hid (HX_8.out.below hb)
  clear hb
  refine start_ (n:=5) (S:=fun w' : World => w'.heap[g7]? = some (.cells ⟨Cx⟩ 32 (0,0)) ∧ w'.heap[g2]? = some (.cells ⟨C0⟩ 63 (0,0))) (ds := []) #[false,false,false,false,false] (by kernel_rfl) rfl rfl (hwd ▸ ⟨G7_9.out,G2_9.out⟩) (fun hHeld => ?_)
  rw [← hwd] at hHeld ⊢
  clear hwd
  refine take_ (i:=0) (N:=some 22) (a' := ?_) #[true,false,false,false,false] rfl rfl (by kernel_rfl) (fun _ _ _ h => h) (yieldsIf_load_mid (by rfl) _ _ rfl g7 0 rfl Cx _ (fun w h => range_all h.1) hu32.out rfl (by rw [HX_9.out.read.len];kernel_rfl)) hHeld ?_ ?_
  rotate_left
  ·simp only [Act.put,List.setIfInBounds_toArray,List.set_cons_zero,List.set_cons_succ,i64_w,i32_w]
   rfl
  refine take_ (i:=1) (N:=some 23) (a' := ?_) #[true,true,false,false,false] rfl rfl (by kernel_rfl) (fun _ _ _ h => h) (yieldsIf_load_mid (by rfl) _ _ rfl g2 0 rfl C0 _ (fun w h => range_all h.2) hu63.out rfl (by exact HI0.out)) hHeld ?_ ?_
  rotate_left
  ·simp only [Act.put,List.setIfInBounds_toArray,List.set_cons_zero,List.set_cons_succ,i64_w,i32_w]
   rfl
  refine one_ (i:=2) (N:=some 24) #[true,true,true,false,false] rfl rfl (by kernel_rfl) (by decide) (fun K hK => ?_)
  refine goes_ Try.func34 (by kernel_rfl) rfl #[.agg ⟨C0⟩] (by rfl) rfl rfl (by (try simp only [List.map_toArray,List.map_cons,List.map_nil]);first | done | rfl) ?_
  refine (toHost_v x0 F.out wd C0 (HK.out _ HB_9.out)).mono ?_
  rintro e w10 ⟨Cy,rfl,ho,hb⟩
  refine ⟨_,rfl, ?_⟩
  rw [← HH.out] at ho
  have HY:=Lib.hid ho.read
  have HB_10:=Lib.hid (below_then HB_9.out HB_9.out.size hb)
  have G2_10:=Lib.hid (blk_below G2_9.out hb)
  have G7_10:=Lib.hid (blk_below G7_9.out hb)
  have HX_10:=Lib.hid (HX_9.out.below hb)
  clear ho hb
  refine hK.out _ _ ⟨G7_10.out,G2_10.out⟩ (fun hHeld => ?_)
  clear hK K
  refine norm_ (a' := ?_) ?_ ?_
  rotate_left
  ·show Act.put _ (some 24) _ = _
   simp only [Act.put,List.setIfInBounds_toArray,List.set_cons_zero,List.set_cons_succ,i64_w,i32_w]
   rfl
  refine one_ (i:=3) (N:=some 25) #[true,true,true,true,false] rfl rfl (by kernel_rfl) (by decide) (fun K hK => ?_)
  refine goes_ Try.func19 (by kernel_rfl) rfl #[.agg ⟨Cx⟩, .agg ⟨Cy⟩] (by rfl) rfl rfl (by (try simp only [List.map_toArray,List.map_cons,List.map_nil]);first | done | rfl) ?_
  refine (eqHost_v h SM.out w10 Cx Cy HX_10.out.read HY.out).mono ?_
  rintro e w11 ⟨rfl,hb⟩
  refine ⟨_,rfl, ?_⟩
  have HB_11:=Lib.hid (below_then HB_10.out HB_10.out.size hb)
  have G2_11:=Lib.hid (blk_below G2_10.out hb)
  have G7_11:=Lib.hid (blk_below G7_10.out hb)
  have HX_11:=Lib.hid (HX_10.out.below hb)
  clear hb
  refine hK.out _ _ ⟨G7_11.out,G2_11.out⟩ (fun hHeld => ?_)
  clear hK K
  refine norm_ (a' := ?_) ?_ ?_
  rotate_left
  ·show Act.put _ (some 25) _ = _
   simp only [Act.put,List.setIfInBounds_toArray,List.set_cons_zero,List.set_cons_succ,i64_w,i32_w]
   rfl
  refine pure_ (i:=4) (N:=some 26) (v := ?_) (a' := ?_) #[true,true,true,true,true] rfl rfl (by kernel_rfl) (fun _ _ _ h => h) (Or.inl ⟨by rfl, ?_⟩) ?_ ?_
  rotate_left
  ·intro w'
   go_simp
   with_reducible rfl
  rotate_left
  ·simp only [Act.put,List.setIfInBounds_toArray,List.set_cons_zero,List.set_cons_succ,i64_w,i32_w]
   rfl
  refine done_ (by kernel_rfl) ?_
  go_wp2_with (fail)
  go_ret
  exact ⟨rfl,HB_11.out⟩
end Go.Proofs.Ytcaefabbcjlkdaa.Pure
