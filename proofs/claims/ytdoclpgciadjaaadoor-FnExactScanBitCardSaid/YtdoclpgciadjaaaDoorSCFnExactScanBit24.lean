/- Texts of the proof of CFnExactScanBit, joined. -/
import Derived.Test.YtdoclpgciadjaaaDoorSCFnExactScanBit21
import Derived.Test.YtdoclpgciadjaaaDoorSCFnExactScanBit22
import Derived.Test.YtdoclpgciadjaaaDoorSCFnExactScanBit23
import Derived.Deep.MidRow
namespace Go.Proofs.YtdoclpgciadjaaaDoor.P
open Go.RowKit Go.Proofs.YtdoclpgciadjaaaDoorW.PrintWords Go.Proofs.YtdoclpgciadjaaaDoorW.PrintLast Go.Proofs.YtdoclpgciadjaaaDoorW.PrintMore
set_option linter.unusedVariables false
set_option linter.unusedSimpArgs false
mutual
def impl_Scan_verdict.j0 : Nat → Int → Bool → Int → Int → Int → Int → Int → Int → Bool → Int → Bool → Int → List Int → Option (Int)
 | 0,_,_,_,_,_,_,_,_,_,_,_,_,_ => none
 | k + 1,x1,x5,x160000,x160001,x160002,x160003,x160004,x160005,x160006,x160007,x160008,x160009,x160010 => if x5 = true then (impl_Scan_verdict.j1 k x1 x5 x160000 x160001 x160002 x160003 x160004 x160005 x160006 x160007 x160008 x160009 x160010) else (if x160000 = 11 then (impl_Scan_verdict.j1 k x1 (x1 == 0) x160000 x160001 x160002 x160003 x160004 x160005 x160006 x160007 x160008 x160009 x160010) else (if x160000 = 13 then (impl_Scan_verdict.j1 k x1 (x1 == 0) x160000 x160001 x160002 x160003 x160004 x160005 x160006 x160007 x160008 x160009 x160010) else (impl_Scan_verdict.j1 k x1 false x160000 x160001 x160002 x160003 x160004 x160005 x160006 x160007 x160008 x160009 x160010)))
def impl_Scan_verdict.j1 : Nat → Int → Bool → Int → Int → Int → Int → Int → Int → Bool → Int → Bool → Int → List Int → Option (Int)
 | 0,_,_,_,_,_,_,_,_,_,_,_,_,_ => none
 | k + 1,x1,x5,x160000,x160001,x160002,x160003,x160004,x160005,x160006,x160007,x160008,x160009,x160010 => if x5 = true then (some 4) else (if x160000 = 13 then (impl_Scan_verdict.j2 k x1 (x160005 != x160004) x160000 x160001 x160002 x160003 x160004 x160005 x160006 x160007 x160008 x160009 x160010) else (impl_Scan_verdict.j2 k x1 false x160000 x160001 x160002 x160003 x160004 x160005 x160006 x160007 x160008 x160009 x160010))
def impl_Scan_verdict.j2 : Nat → Int → Bool → Int → Int → Int → Int → Int → Int → Bool → Int → Bool → Int → List Int → Option (Int)
 | 0,_,_,_,_,_,_,_,_,_,_,_,_,_ => none
 | k + 1,x1,x25,x160000,x160001,x160002,x160003,x160004,x160005,x160006,x160007,x160008,x160009,x160010 => if x25 = true then (some 5) else (if x160000 = 14 then (if x1 = 0 then (impl_Scan_verdict.j3 k x1 (decide (x160001 > 1)) x160000 x160001 x160002 x160003 x160004 x160005 x160006 x160007 x160008 x160009 x160010) else (impl_Scan_verdict.j3 k x1 false x160000 x160001 x160002 x160003 x160004 x160005 x160006 x160007 x160008 x160009 x160010)) else (some 0))
def impl_Scan_verdict.j3 : Nat → Int → Bool → Int → Int → Int → Int → Int → Int → Bool → Int → Bool → Int → List Int → Option (Int)
 | 0,_,_,_,_,_,_,_,_,_,_,_,_,_ => none
 | k + 1,x1,x40,x160000,x160001,x160002,x160003,x160004,x160005,x160006,x160007,x160008,x160009,x160010 => if x40 = true then (some 4) else (if x1 = 0 then (some 6) else (if x160001 = 2 then (some 1) else (if x160001 = 1 then (some 2) else (some 0))))
end
def impl_Scan_verdict.f (k : Nat) (a0_0 : Int) (a0_1 : Int) (a0_2 : Int) (a0_3 : Int) (a0_4 : Int) (a0_5 : Int) (a0_6 : Bool) (a0_7 : Int) (a0_8 : Bool) (a0_9 : Int) (l0_10 : List Int) (a1 : Int) : Option (Int):=if a0_0 = 1 then (impl_Scan_verdict.j0 k a1 (a1 == 1) a0_0 a0_1 a0_2 a0_3 a0_4 a0_5 a0_6 a0_7 a0_8 a0_9 l0_10) else (impl_Scan_verdict.j0 k a1 false a0_0 a0_1 a0_2 a0_3 a0_4 a0_5 a0_6 a0_7 a0_8 a0_9 l0_10)
set_option maxHeartbeats 8000000 in
set_option maxRecDepth 100000 in
theorem impl_Scan_verdict.calls (k : Nat) (a0_0 : Int) (a0_1 : Int) (a0_2 : Int) (a0_3 : Int) (a0_4 : Int) (a0_5 : Int) (a0_6 : Bool) (a0_7 : Int) (a0_8 : Bool) (a0_9 : Int) (A0_10 : Option Addr) (c0_10 : Nat) (l0_10 : List Int) (a1 : Int) (r : Int) (w : World) (hr0_10 : Kd.C (Kd.int .u8) w A0_10 l0_10.length l0_10) (hc0_10 : l0_10.length ≤ c0_10) (h : impl_Scan_verdict.f k a0_0 a0_1 a0_2 a0_3 a0_4 a0_5 a0_6 a0_7 a0_8 a0_9 l0_10 a1 = some r) :
  Calls Tryd.prog 29 #[.agg #[.int .i64 a0_0, .int .i64 a0_1, .int .i64 a0_2, .int .i64 a0_3, .int .i64 a0_4, .int .i64 a0_5, .bool a0_6, .int .u32 a0_7, .bool a0_8, .int .i64 a0_9, .slice A0_10 l0_10.length c0_10], .int .i64 a1] w fun e w' => e = .returned (.int .i64 r) ∧ Below w.heap.size w w':=by
 have hu31:=Tryd.underlying31
 have HR0_10:=Aside0.mk hr0_10
 have HC0_10:=Aside0.mk hc0_10
 clear hr0_10 hc0_10
 have HB:=Aside0.mk (Below.refl w.heap.size w)
 have H : (if a0_0 = 1 then (impl_Scan_verdict.j0 k a1 (a1 == 1) a0_0 a0_1 a0_2 a0_3 a0_4 a0_5 a0_6 a0_7 a0_8 a0_9 l0_10) else (impl_Scan_verdict.j0 k a1 false a0_0 a0_1 a0_2 a0_3 a0_4 a0_5 a0_6 a0_7 a0_8 a0_9 l0_10)) = some r:=h
 clear h
 have HC3:=Aside0.mk H
 clear H
 go_enter Tryd.func29,Tryd.ntmps29
 go_upto_region 1 with (first | ((with_reducible refine gate_dst (N:=2) rfl ?_);refine box_event ?hg (N:=2) ?hd (cs := #[.int .i64 a0_0, .int .i64 a0_1, .int .i64 a0_2, .int .i64 a0_3, .int .i64 a0_4, .int .i64 a0_5, .bool a0_6, .int .u32 a0_7, .bool a0_8, .int .i64 a0_9, .slice A0_10 l0_10.length c0_10]) (t:=31) ?hr ?_;(case hd => rfl);(case hg => rfl);(case hr => first | (go_simp;done) | (go_simp;rfl));intro gb159 hg w4 hbox hb;have n0_:=Aside0.mk (below_step (by repeat (first | (with_reducible first | exact HB.out | apply below_alloc | apply pw_below_drewN | apply below_drew1) | exact HB.out)) hb);have n1_:=Aside0.mk (hbox);have n2_:=Aside0.mk ((by rw [hg];exact (below_size (by repeat (first | (with_reducible first | exact HB.out | apply below_alloc | apply pw_below_drewN | apply below_drew1) | exact HB.out))) : w.heap.size ≤ gb159));have n3_:=Aside0.mk ((by rw [hg];exact (below_size (by repeat (first | (with_reducible first | exact HB.out | apply below_alloc | apply pw_below_drewN | apply below_drew1) | exact HB.out))) : w.heap.size ≤ gb159));clear HB;have HB:=n0_;have BK159:=n1_;have GW159:=n2_;have GE159:=n3_;clear n0_ n1_ n2_ n3_;clear hb hbox hg))
 (try simp only [Act.put,List.setIfInBounds_toArray,List.set_cons_zero,List.set_cons_succ])
 go_cut [5] (fun v5 wc => ∃ (kq : Nat) (x5_2 : Bool),v5 = .bool x5_2 ∧ Aside0 (impl_Scan_verdict.j0 kq a1 x5_2 a0_0 a0_1 a0_2 a0_3 a0_4 a0_5 a0_6 a0_7 a0_8 a0_9 l0_10 = some r) ∧ Aside0 (kq ≤ k) ∧ Aside0 (wc.heap[gb159]? = some (.cells #[.int .i64 a0_0, .int .i64 a0_1, .int .i64 a0_2, .int .i64 a0_3, .int .i64 a0_4, .int .i64 a0_5, .bool a0_6, .int .u32 a0_7, .bool a0_8, .int .i64 a0_9,(.slice A0_10 l0_10.length c0_10)] 31 (0,0))) ∧ Aside0 (Below w.heap.size w wc))
 case first =>
  have H:=HC3.out
  clear HC3
  by_cases c5 : a0_0 = 1
  ·rw [if_pos c5] at H
   have c5b0 : (a0_0 == 1) = true:=beq_iff_eq.mpr c5
   have c5b1 : (a0_0 != 1) = false:=bne_eq_false_iff_eq.mpr c5
   clear c5
   (first | rw [c5b0] | (simp only [i64_w,i32_w];rw [c5b0]) | skip)
   have H':=Aside0.mk H
   clear H
   obtain ⟨hcz6_0,hcz6_1,hcz6_2,hcz6_3,hcz6_4,hcz6_5,hcz6_6,hcz6_7,hcz6_8,hcz6_9,hcz6_10⟩:=bc11 BK159.out
   obtain ⟨hfz6_0,hfz6_1,hfz6_2,hfz6_3,hfz6_4,hfz6_5,hfz6_6,hfz6_7,hfz6_8,hfz6_9,hfz6_10⟩:=bf11 BK159.out
   go_wp2
   go_meet
   case rel => exact ⟨_,((a1 == 1)),(by first | rfl | (simp;done) | (simp [*];done)),H',⟨by first | omega | exact Nat.le_refl _⟩,⟨by (with_reducible repeat (first | refine blk_drewN ?_ _ | refine blk_drew ?_ | refine blk_alloc ?_ _));exact BK159.out⟩,⟨by repeat (first | (with_reducible first | exact HB.out | apply below_alloc | apply pw_below_drewN | apply below_drew1 | refine below_set ?_ GE159.out) | exact HB.out)⟩⟩
  ·rw [if_neg c5] at H
   have c5b0 : (a0_0 == 1) = false:=beq_eq_false_iff_ne.mpr c5
   have c5b1 : (a0_0 != 1) = true:=bne_iff_ne.mpr c5
   (first | rw [c5b0] | (simp only [i64_w,i32_w];rw [c5b0]) | skip)
   have H':=Aside0.mk H
   clear H
   obtain ⟨hcz7_0,hcz7_1,hcz7_2,hcz7_3,hcz7_4,hcz7_5,hcz7_6,hcz7_7,hcz7_8,hcz7_9,hcz7_10⟩:=bc11 BK159.out
   obtain ⟨hfz7_0,hfz7_1,hfz7_2,hfz7_3,hfz7_4,hfz7_5,hfz7_6,hfz7_7,hfz7_8,hfz7_9,hfz7_10⟩:=bf11 BK159.out
   go_wp2
   go_meet
   case rel => exact ⟨_,(false),(by first | rfl | (simp;done) | (simp [*];done)),H',⟨by first | omega | exact Nat.le_refl _⟩,⟨by (with_reducible repeat (first | refine blk_drewN ?_ _ | refine blk_drew ?_ | refine blk_alloc ?_ _));exact BK159.out⟩,⟨by repeat (first | (with_reducible first | exact HB.out | apply below_alloc | apply pw_below_drewN | apply below_drew1 | refine below_set ?_ GE159.out) | exact HB.out)⟩⟩
 case rest =>
  clear HC3
  try clear c2
  try clear p2
  try clear c5
  try clear c5b0
  try clear c5b1
  try clear hcz6_0
  try clear hcz6_1
  try clear hcz6_10
  try clear hcz6_2
  try clear hcz6_3
  try clear hcz6_4
  try clear hcz6_5
  try clear hcz6_6
  try clear hcz6_7
  try clear hcz6_8
  try clear hcz6_9
  try clear hcz7_0
  try clear hcz7_1
  try clear hcz7_10
  try clear hcz7_2
  try clear hcz7_3
  try clear hcz7_4
  try clear hcz7_5
  try clear hcz7_6
  try clear hcz7_7
  try clear hcz7_8
  try clear hcz7_9
  try clear hfz6_0
  try clear hfz6_1
  try clear hfz6_10
  try clear hfz6_2
  try clear hfz6_3
  try clear hfz6_4
  try clear hfz6_5
  try clear hfz6_6
  try clear hfz6_7
  try clear hfz6_8
  try clear hfz6_9
  try clear hfz7_0
  try clear hfz7_1
  try clear hfz7_10
  try clear hfz7_2
  try clear hfz7_3
  try clear hfz7_4
  try clear hfz7_5
  try clear hfz7_6
  try clear hfz7_7
  try clear hfz7_8
  try clear hfz7_9
  obtain ⟨kq,x5_2,rfl,HA,HJ2,BK159,HB⟩:=hcut
  cases kq with
  | zero => exact absurd HA.out (by simp [impl_Scan_verdict.j0])
  | succ kj2 =>
   have H:=HA.out
   clear HA
   simp only [impl_Scan_verdict.j0] at H
   have HC8:=Aside0.mk H
   clear H
   go_upto_if 5 with (fail)
   go_cut [5] (fun v5 wc => ∃ (kq : Nat) (x5_7 : Bool),v5 = .bool x5_7 ∧ Aside0 (impl_Scan_verdict.j1 kq a1 x5_7 a0_0 a0_1 a0_2 a0_3 a0_4 a0_5 a0_6 a0_7 a0_8 a0_9 l0_10 = some r) ∧ Aside0 (kq ≤ kj2) ∧ Aside0 (wc.heap[gb159]? = some (.cells #[.int .i64 a0_0, .int .i64 a0_1, .int .i64 a0_2, .int .i64 a0_3, .int .i64 a0_4, .int .i64 a0_5, .bool a0_6, .int .u32 a0_7, .bool a0_8, .int .i64 a0_9,(.slice A0_10 l0_10.length c0_10)] 31 (0,0))) ∧ Aside0 (Below w.heap.size w wc))
   case first =>
    have H:=HC8.out
    clear HC8
    by_cases c9 : x5_2 = true
    ·subst c9
     have H1 : (impl_Scan_verdict.j1 kj2 a1 true a0_0 a0_1 a0_2 a0_3 a0_4 a0_5 a0_6 a0_7 a0_8 a0_9 l0_10) = some r:=by rw [if_pos rfl] at H;exact H
     clear H
     have H:=H1
     clear H1
     have H':=Aside0.mk H
     clear H
     go_wp2
     go_meet
     case rel => exact ⟨_,(true),(by first | rfl | (simp;done) | (simp [*];done)),H',⟨by have:=HJ2.out;first | omega | exact Nat.le_refl _⟩,⟨by (with_reducible repeat (first | refine blk_drewN ?_ _ | refine blk_drew ?_ | refine blk_alloc ?_ _));exact BK159.out⟩,⟨by repeat (first | (with_reducible first | exact HB.out | apply below_alloc | apply pw_below_drewN | apply below_drew1 | refine below_set ?_ GE159.out) | exact HB.out)⟩⟩
    ·replace c9:=Bool.eq_false_iff.mpr c9
     subst c9
     have H1 : (if a0_0 = 11 then (impl_Scan_verdict.j1 kj2 a1 (a1 == 0) a0_0 a0_1 a0_2 a0_3 a0_4 a0_5 a0_6 a0_7 a0_8 a0_9 l0_10) else (if a0_0 = 13 then (impl_Scan_verdict.j1 kj2 a1 (a1 == 0) a0_0 a0_1 a0_2 a0_3 a0_4 a0_5 a0_6 a0_7 a0_8 a0_9 l0_10) else (impl_Scan_verdict.j1 kj2 a1 false a0_0 a0_1 a0_2 a0_3 a0_4 a0_5 a0_6 a0_7 a0_8 a0_9 l0_10))) = some r:=by rw [if_neg (show ¬ (false = true) by decide)] at H;exact H
     clear H
     have H:=H1
     clear H1
     by_cases c10 : a0_0 = 11
     ·rw [if_pos c10] at H
      have c10b0 : (a0_0 == 11) = true:=beq_iff_eq.mpr c10
      have c10b1 : (a0_0 != 11) = false:=bne_eq_false_iff_eq.mpr c10
      clear c10
      (first | rw [c10b0] | (simp only [i64_w,i32_w];rw [c10b0]) | skip)
      have H':=Aside0.mk H
      clear H
      obtain ⟨hcz11_0,hcz11_1,hcz11_2,hcz11_3,hcz11_4,hcz11_5,hcz11_6,hcz11_7,hcz11_8,hcz11_9,hcz11_10⟩:=bc11 BK159.out
      obtain ⟨hfz11_0,hfz11_1,hfz11_2,hfz11_3,hfz11_4,hfz11_5,hfz11_6,hfz11_7,hfz11_8,hfz11_9,hfz11_10⟩:=bf11 BK159.out
      go_wp2
      go_meet
      case rel => exact ⟨_,((a1 == 0)),(by first | rfl | (simp;done) | (simp [*];done)),H',⟨by have:=HJ2.out;first | omega | exact Nat.le_refl _⟩,⟨by (with_reducible repeat (first | refine blk_drewN ?_ _ | refine blk_drew ?_ | refine blk_alloc ?_ _));exact BK159.out⟩,⟨by repeat (first | (with_reducible first | exact HB.out | apply below_alloc | apply pw_below_drewN | apply below_drew1 | refine below_set ?_ GE159.out) | exact HB.out)⟩⟩
     ·rw [if_neg c10] at H
      have c10b0 : (a0_0 == 11) = false:=beq_eq_false_iff_ne.mpr c10
      have c10b1 : (a0_0 != 11) = true:=bne_iff_ne.mpr c10
      (first | rw [c10b0] | (simp only [i64_w,i32_w];rw [c10b0]) | skip)
      by_cases c12 : a0_0 = 13
      ·rw [if_pos c12] at H
       have c12b0 : (a0_0 == 13) = true:=beq_iff_eq.mpr c12
       have c12b1 : (a0_0 != 13) = false:=bne_eq_false_iff_eq.mpr c12
       clear c12
       have H':=Aside0.mk H
       clear H
       obtain ⟨hcz13_0,hcz13_1,hcz13_2,hcz13_3,hcz13_4,hcz13_5,hcz13_6,hcz13_7,hcz13_8,hcz13_9,hcz13_10⟩:=bc11 BK159.out
       obtain ⟨hfz13_0,hfz13_1,hfz13_2,hfz13_3,hfz13_4,hfz13_5,hfz13_6,hfz13_7,hfz13_8,hfz13_9,hfz13_10⟩:=bf11 BK159.out
       go_wp2
       go_meet
       case rel => exact ⟨_,((a1 == 0)),(by first | rfl | (simp;done) | (simp [*];done)),H',⟨by have:=HJ2.out;first | omega | exact Nat.le_refl _⟩,⟨by (with_reducible repeat (first | refine blk_drewN ?_ _ | refine blk_drew ?_ | refine blk_alloc ?_ _));exact BK159.out⟩,⟨by repeat (first | (with_reducible first | exact HB.out | apply below_alloc | apply pw_below_drewN | apply below_drew1 | refine below_set ?_ GE159.out) | exact HB.out)⟩⟩
      ·rw [if_neg c12] at H
       have c12b0 : (a0_0 == 13) = false:=beq_eq_false_iff_ne.mpr c12
       have c12b1 : (a0_0 != 13) = true:=bne_iff_ne.mpr c12
       have H':=Aside0.mk H
       clear H
       obtain ⟨hcz14_0,hcz14_1,hcz14_2,hcz14_3,hcz14_4,hcz14_5,hcz14_6,hcz14_7,hcz14_8,hcz14_9,hcz14_10⟩:=bc11 BK159.out
       obtain ⟨hfz14_0,hfz14_1,hfz14_2,hfz14_3,hfz14_4,hfz14_5,hfz14_6,hfz14_7,hfz14_8,hfz14_9,hfz14_10⟩:=bf11 BK159.out
       go_wp2
       go_meet
       case rel => exact ⟨_,(false),(by first | rfl | (simp;done) | (simp [*];done)),H',⟨by have:=HJ2.out;first | omega | exact Nat.le_refl _⟩,⟨by (with_reducible repeat (first | refine blk_drewN ?_ _ | refine blk_drew ?_ | refine blk_alloc ?_ _));exact BK159.out⟩,⟨by repeat (first | (with_reducible first | exact HB.out | apply below_alloc | apply pw_below_drewN | apply below_drew1 | refine below_set ?_ GE159.out) | exact HB.out)⟩⟩
   case rest =>
    clear HC8
    try clear c1
    try clear c2
    try clear p2
    try clear c5
    try clear c5b0
    try clear c5b1
    try clear c9
    try clear c10
    try clear c10b0
    try clear c10b1
    try clear c12
    try clear c12b0
    try clear c12b1
    try clear hcz11_0
    try clear hcz11_1
    try clear hcz11_10
    try clear hcz11_2
    try clear hcz11_3
    try clear hcz11_4
    try clear hcz11_5
    try clear hcz11_6
    try clear hcz11_7
    try clear hcz11_8
    try clear hcz11_9
    try clear hcz13_0
    try clear hcz13_1
    try clear hcz13_10
    try clear hcz13_2
    try clear hcz13_3
    try clear hcz13_4
    try clear hcz13_5
    try clear hcz13_6
    try clear hcz13_7
    try clear hcz13_8
    try clear hcz13_9
    try clear hcz14_0
    try clear hcz14_1
    try clear hcz14_10
    try clear hcz14_2
    try clear hcz14_3
    try clear hcz14_4
    try clear hcz14_5
    try clear hcz14_6
    try clear hcz14_7
    try clear hcz14_8
    try clear hcz14_9
    try clear hcz6_0
    try clear hcz6_1
    try clear hcz6_10
    try clear hcz6_2
    try clear hcz6_3
    try clear hcz6_4
    try clear hcz6_5
    try clear hcz6_6
    try clear hcz6_7
    try clear hcz6_8
    try clear hcz6_9
    try clear hcz7_0
    try clear hcz7_1
    try clear hcz7_10
    try clear hcz7_2
    try clear hcz7_3
    try clear hcz7_4
    try clear hcz7_5
    try clear hcz7_6
    try clear hcz7_7
    try clear hcz7_8
    try clear hcz7_9
    try clear hfz11_0
    try clear hfz11_1
    try clear hfz11_10
    try clear hfz11_2
    try clear hfz11_3
    try clear hfz11_4
    try clear hfz11_5
    try clear hfz11_6
    try clear hfz11_7
    try clear hfz11_8
    try clear hfz11_9
    try clear hfz13_0
    try clear hfz13_1
    try clear hfz13_10
    try clear hfz13_2
    try clear hfz13_3
    try clear hfz13_4
    try clear hfz13_5
    try clear hfz13_6
    try clear hfz13_7
    try clear hfz13_8
    try clear hfz13_9
    try clear hfz14_0
    try clear hfz14_1
    try clear hfz14_10
    try clear hfz14_2
    try clear hfz14_3
    try clear hfz14_4
    try clear hfz14_5
    try clear hfz14_6
    try clear hfz14_7
    try clear hfz14_8
    try clear hfz14_9
    try clear hfz6_0
    try clear hfz6_1
    try clear hfz6_10
    try clear hfz6_2
    try clear hfz6_3
    try clear hfz6_4
    try clear hfz6_5
    try clear hfz6_6
    try clear hfz6_7
    try clear hfz6_8
    try clear hfz6_9
    try clear hfz7_0
    try clear hfz7_1
    try clear hfz7_10
    try clear hfz7_2
    try clear hfz7_3
    try clear hfz7_4
    try clear hfz7_5
    try clear hfz7_6
    try clear hfz7_7
    try clear hfz7_8
    try clear hfz7_9
    try clear p2
    obtain ⟨kq,x5_7,rfl,HA,HJ7,BK159,HB⟩:=hcut
    cases kq with
    | zero => exact absurd HA.out (by simp [impl_Scan_verdict.j1])
    | succ kj7 =>
     have H:=HA.out
     clear HA
     simp only [impl_Scan_verdict.j1] at H
     by_cases c15 : x5_7 = true
     ·subst c15
      have H1 : (some 4) = some r:=by rw [if_pos rfl] at H;exact H
      clear H
      have H:=H1
      clear H1
      obtain rfl:=Option.some.inj H
      go_wp2
      go_ret
      exact ⟨by first | rfl | (simp [errW_none,errW_some] <;> rfl) | (simp [*,errW_none,errW_some] <;> rfl),by repeat (first | (with_reducible first | exact HB.out | apply below_alloc | apply pw_below_drewN | apply below_drew1 | refine below_set ?_ GE159.out) | exact HB.out)⟩
     ·replace c15:=Bool.eq_false_iff.mpr c15
      subst c15
      have H1 : (if a0_0 = 13 then (impl_Scan_verdict.j2 kj7 a1 (a0_5 != a0_4) a0_0 a0_1 a0_2 a0_3 a0_4 a0_5 a0_6 a0_7 a0_8 a0_9 l0_10) else (impl_Scan_verdict.j2 kj7 a1 false a0_0 a0_1 a0_2 a0_3 a0_4 a0_5 a0_6 a0_7 a0_8 a0_9 l0_10)) = some r:=by rw [if_neg (show ¬ (false = true) by decide)] at H;exact H
      clear H
      have H:=H1
      clear H1
      have HC16:=Aside0.mk H
      clear H
      go_upto_region 4 with (fail)
      go_cut [25] (fun v25 wc => ∃ (kq : Nat) (x25_15 : Bool),v25 = .bool x25_15 ∧ Aside0 (impl_Scan_verdict.j2 kq a1 x25_15 a0_0 a0_1 a0_2 a0_3 a0_4 a0_5 a0_6 a0_7 a0_8 a0_9 l0_10 = some r) ∧ Aside0 (kq ≤ kj7) ∧ Aside0 (wc.heap[gb159]? = some (.cells #[.int .i64 a0_0, .int .i64 a0_1, .int .i64 a0_2, .int .i64 a0_3, .int .i64 a0_4, .int .i64 a0_5, .bool a0_6, .int .u32 a0_7, .bool a0_8, .int .i64 a0_9,(.slice A0_10 l0_10.length c0_10)] 31 (0,0))) ∧ Aside0 (Below w.heap.size w wc))
      case first =>
       have H:=HC16.out
       clear HC16
       by_cases c17 : a0_0 = 13
       ·rw [if_pos c17] at H
        have c17b0 : (a0_0 == 13) = true:=beq_iff_eq.mpr c17
        have c17b1 : (a0_0 != 13) = false:=bne_eq_false_iff_eq.mpr c17
        clear c17
        (first | rw [c17b0] | (simp only [i64_w,i32_w];rw [c17b0]) | skip)
        have H':=Aside0.mk H
        clear H
        obtain ⟨hcz18_0,hcz18_1,hcz18_2,hcz18_3,hcz18_4,hcz18_5,hcz18_6,hcz18_7,hcz18_8,hcz18_9,hcz18_10⟩:=bc11 BK159.out
        obtain ⟨hfz18_0,hfz18_1,hfz18_2,hfz18_3,hfz18_4,hfz18_5,hfz18_6,hfz18_7,hfz18_8,hfz18_9,hfz18_10⟩:=bf11 BK159.out
        go_wp2
        go_meet
        case rel => exact ⟨_,((a0_5 != a0_4)),(by first | rfl | (simp;done) | (simp [*];done)),H',⟨by have:=HJ2.out;have:=HJ7.out;first | omega | exact Nat.le_refl _⟩,⟨by (with_reducible repeat (first | refine blk_drewN ?_ _ | refine blk_drew ?_ | refine blk_alloc ?_ _));exact BK159.out⟩,⟨by repeat (first | (with_reducible first | exact HB.out | apply below_alloc | apply pw_below_drewN | apply below_drew1 | refine below_set ?_ GE159.out) | exact HB.out)⟩⟩
       ·rw [if_neg c17] at H
        have c17b0 : (a0_0 == 13) = false:=beq_eq_false_iff_ne.mpr c17
        have c17b1 : (a0_0 != 13) = true:=bne_iff_ne.mpr c17
        (first | rw [c17b0] | (simp only [i64_w,i32_w];rw [c17b0]) | skip)
        have H':=Aside0.mk H
        clear H
        obtain ⟨hcz19_0,hcz19_1,hcz19_2,hcz19_3,hcz19_4,hcz19_5,hcz19_6,hcz19_7,hcz19_8,hcz19_9,hcz19_10⟩:=bc11 BK159.out
        obtain ⟨hfz19_0,hfz19_1,hfz19_2,hfz19_3,hfz19_4,hfz19_5,hfz19_6,hfz19_7,hfz19_8,hfz19_9,hfz19_10⟩:=bf11 BK159.out
        go_wp2
        go_meet
        case rel => exact ⟨_,(false),(by first | rfl | (simp;done) | (simp [*];done)),H',⟨by have:=HJ2.out;have:=HJ7.out;first | omega | exact Nat.le_refl _⟩,⟨by (with_reducible repeat (first | refine blk_drewN ?_ _ | refine blk_drew ?_ | refine blk_alloc ?_ _));exact BK159.out⟩,⟨by repeat (first | (with_reducible first | exact HB.out | apply below_alloc | apply pw_below_drewN | apply below_drew1 | refine below_set ?_ GE159.out) | exact HB.out)⟩⟩
      case rest =>
       clear HC16
       try clear c1
       try clear c2
       try clear p2
       try clear c5
       try clear c5b0
       try clear c5b1
       try clear c9
       try clear c10
       try clear c10b0
       try clear c10b1
       try clear c12
       try clear c12b0
       try clear c12b1
       try clear c15
       try clear c17
       try clear c17b0
       try clear c17b1
       try clear hcz11_0
       try clear hcz11_1
       try clear hcz11_10
       try clear hcz11_2
       try clear hcz11_3
       try clear hcz11_4
       try clear hcz11_5
       try clear hcz11_6
       try clear hcz11_7
       try clear hcz11_8
       try clear hcz11_9
       try clear hcz13_0
       try clear hcz13_1
       try clear hcz13_10
       try clear hcz13_2
       try clear hcz13_3
       try clear hcz13_4
       try clear hcz13_5
       try clear hcz13_6
       try clear hcz13_7
       try clear hcz13_8
       try clear hcz13_9
       try clear hcz14_0
       try clear hcz14_1
       try clear hcz14_10
       try clear hcz14_2
       try clear hcz14_3
       try clear hcz14_4
       try clear hcz14_5
       try clear hcz14_6
       try clear hcz14_7
       try clear hcz14_8
       try clear hcz14_9
       try clear hcz18_0
       try clear hcz18_1
       try clear hcz18_10
       try clear hcz18_2
       try clear hcz18_3
       try clear hcz18_4
       try clear hcz18_5
       try clear hcz18_6
       try clear hcz18_7
       try clear hcz18_8
       try clear hcz18_9
       try clear hcz19_0
       try clear hcz19_1
       try clear hcz19_10
       try clear hcz19_2
       try clear hcz19_3
       try clear hcz19_4
       try clear hcz19_5
       try clear hcz19_6
       try clear hcz19_7
       try clear hcz19_8
       try clear hcz19_9
       try clear hcz6_0
       try clear hcz6_1
       try clear hcz6_10
       try clear hcz6_2
       try clear hcz6_3
       try clear hcz6_4
       try clear hcz6_5
       try clear hcz6_6
       try clear hcz6_7
       try clear hcz6_8
       try clear hcz6_9
       try clear hcz7_0
       try clear hcz7_1
       try clear hcz7_10
       try clear hcz7_2
       try clear hcz7_3
       try clear hcz7_4
       try clear hcz7_5
       try clear hcz7_6
       try clear hcz7_7
       try clear hcz7_8
       try clear hcz7_9
       try clear hfz11_0
       try clear hfz11_1
       try clear hfz11_10
       try clear hfz11_2
       try clear hfz11_3
       try clear hfz11_4
       try clear hfz11_5
       try clear hfz11_6
       try clear hfz11_7
       try clear hfz11_8
       try clear hfz11_9
       try clear hfz13_0
       try clear hfz13_1
       try clear hfz13_10
       try clear hfz13_2
       try clear hfz13_3
       try clear hfz13_4
       try clear hfz13_5
       try clear hfz13_6
       try clear hfz13_7
       try clear hfz13_8
       try clear hfz13_9
       try clear hfz14_0
       try clear hfz14_1
       try clear hfz14_10
       try clear hfz14_2
       try clear hfz14_3
       try clear hfz14_4
       try clear hfz14_5
       try clear hfz14_6
       try clear hfz14_7
       try clear hfz14_8
       try clear hfz14_9
       try clear hfz18_0
       try clear hfz18_1
       try clear hfz18_10
       try clear hfz18_2
       try clear hfz18_3
       try clear hfz18_4
       try clear hfz18_5
       try clear hfz18_6
       try clear hfz18_7
       try clear hfz18_8
       try clear hfz18_9
       try clear hfz19_0
       try clear hfz19_1
       try clear hfz19_10
       try clear hfz19_2
       try clear hfz19_3
       try clear hfz19_4
       try clear hfz19_5
       try clear hfz19_6
       try clear hfz19_7
       try clear hfz19_8
       try clear hfz19_9
       try clear hfz6_0
       try clear hfz6_1
       try clear hfz6_10
       try clear hfz6_2
       try clear hfz6_3
       try clear hfz6_4
       try clear hfz6_5
       try clear hfz6_6
       try clear hfz6_7
       try clear hfz6_8
       try clear hfz6_9
       try clear hfz7_0
       try clear hfz7_1
       try clear hfz7_10
       try clear hfz7_2
       try clear hfz7_3
       try clear hfz7_4
       try clear hfz7_5
       try clear hfz7_6
       try clear hfz7_7
       try clear hfz7_8
       try clear hfz7_9
       try clear p2
       obtain ⟨kq,x25_15,rfl,HA,HJ15,BK159,HB⟩:=hcut
       cases kq with
       | zero => exact absurd HA.out (by simp [impl_Scan_verdict.j2])
       | succ kj15 =>
        have H:=HA.out
        clear HA
        simp only [impl_Scan_verdict.j2] at H
        by_cases c20 : x25_15 = true
        ·subst c20
         have H1 : (some 5) = some r:=by rw [if_pos rfl] at H;exact H
         clear H
         have H:=H1
         clear H1
         obtain rfl:=Option.some.inj H
         go_wp2
         go_ret
         exact ⟨by first | rfl | (simp [errW_none,errW_some] <;> rfl) | (simp [*,errW_none,errW_some] <;> rfl),by repeat (first | (with_reducible first | exact HB.out | apply below_alloc | apply pw_below_drewN | apply below_drew1 | refine below_set ?_ GE159.out) | exact HB.out)⟩
        ·replace c20:=Bool.eq_false_iff.mpr c20
         subst c20
         have H1 : (if a0_0 = 14 then (if a1 = 0 then (impl_Scan_verdict.j3 kj15 a1 (decide (a0_1 > 1)) a0_0 a0_1 a0_2 a0_3 a0_4 a0_5 a0_6 a0_7 a0_8 a0_9 l0_10) else (impl_Scan_verdict.j3 kj15 a1 false a0_0 a0_1 a0_2 a0_3 a0_4 a0_5 a0_6 a0_7 a0_8 a0_9 l0_10)) else (some 0)) = some r:=by rw [if_neg (show ¬ (false = true) by decide)] at H;exact H
         clear H
         have H:=H1
         clear H1
         by_cases c21 : a0_0 = 14
         ·rw [if_pos c21] at H
          have c21b0 : (a0_0 == 14) = true:=beq_iff_eq.mpr c21
          have c21b1 : (a0_0 != 14) = false:=bne_eq_false_iff_eq.mpr c21
          clear c21
          have HC22:=Aside0.mk H
          clear H
          obtain ⟨hcz23_0,hcz23_1,hcz23_2,hcz23_3,hcz23_4,hcz23_5,hcz23_6,hcz23_7,hcz23_8,hcz23_9,hcz23_10⟩:=bc11 BK159.out
          obtain ⟨hfz23_0,hfz23_1,hfz23_2,hfz23_3,hfz23_4,hfz23_5,hfz23_6,hfz23_7,hfz23_8,hfz23_9,hfz23_10⟩:=bf11 BK159.out
          go_upto_region 8 with (fail)
          go_cut [40] (fun v40 wc => ∃ (kq : Nat) (x40_21 : Bool),v40 = .bool x40_21 ∧ Aside0 (impl_Scan_verdict.j3 kq a1 x40_21 a0_0 a0_1 a0_2 a0_3 a0_4 a0_5 a0_6 a0_7 a0_8 a0_9 l0_10 = some r) ∧ Aside0 (kq ≤ kj15) ∧ Aside0 (wc.heap[gb159]? = some (.cells #[.int .i64 a0_0, .int .i64 a0_1, .int .i64 a0_2, .int .i64 a0_3, .int .i64 a0_4, .int .i64 a0_5, .bool a0_6, .int .u32 a0_7, .bool a0_8, .int .i64 a0_9,(.slice A0_10 l0_10.length c0_10)] 31 (0,0))) ∧ Aside0 (Below w.heap.size w wc))
          case first =>
           have H:=HC22.out
           clear HC22
           by_cases c24 : a1 = 0
           ·rw [if_pos c24] at H
            have c24b0 : (a1 == 0) = true:=beq_iff_eq.mpr c24
            have c24b1 : (a1 != 0) = false:=bne_eq_false_iff_eq.mpr c24
            clear c24
            (first | rw [c24b0] | (simp only [i64_w,i32_w];rw [c24b0]) | skip)
            have H':=Aside0.mk H
            clear H
            obtain ⟨hcz25_0,hcz25_1,hcz25_2,hcz25_3,hcz25_4,hcz25_5,hcz25_6,hcz25_7,hcz25_8,hcz25_9,hcz25_10⟩:=bc11 BK159.out
            obtain ⟨hfz25_0,hfz25_1,hfz25_2,hfz25_3,hfz25_4,hfz25_5,hfz25_6,hfz25_7,hfz25_8,hfz25_9,hfz25_10⟩:=bf11 BK159.out
            go_wp2
            go_meet
            case rel => exact ⟨_,(decide (a0_1 > 1)),(by first | rfl | (simp;done) | (simp [*];done)),H',⟨by have:=HJ2.out;have:=HJ7.out;have:=HJ15.out;first | omega | exact Nat.le_refl _⟩,⟨by (with_reducible repeat (first | refine blk_drewN ?_ _ | refine blk_drew ?_ | refine blk_alloc ?_ _));exact BK159.out⟩,⟨by repeat (first | (with_reducible first | exact HB.out | apply below_alloc | apply pw_below_drewN | apply below_drew1 | refine below_set ?_ GE159.out) | exact HB.out)⟩⟩
           ·rw [if_neg c24] at H
            have c24b0 : (a1 == 0) = false:=beq_eq_false_iff_ne.mpr c24
            have c24b1 : (a1 != 0) = true:=bne_iff_ne.mpr c24
            (first | rw [c24b0] | (simp only [i64_w,i32_w];rw [c24b0]) | skip)
            have H':=Aside0.mk H
            clear H
            go_wp2
            go_meet
            case rel => exact ⟨_,(false),(by first | rfl | (simp;done) | (simp [*];done)),H',⟨by have:=HJ2.out;have:=HJ7.out;have:=HJ15.out;first | omega | exact Nat.le_refl _⟩,⟨by (with_reducible repeat (first | refine blk_drewN ?_ _ | refine blk_drew ?_ | refine blk_alloc ?_ _));exact BK159.out⟩,⟨by repeat (first | (with_reducible first | exact HB.out | apply below_alloc | apply pw_below_drewN | apply below_drew1 | refine below_set ?_ GE159.out) | exact HB.out)⟩⟩
          case rest =>
           clear HC22
           try clear c1
           try clear c2
           try clear p2
           try clear c5
           try clear c5b0
           try clear c5b1
           try clear c9
           try clear c10
           try clear c10b0
           try clear c10b1
           try clear c12
           try clear c12b0
           try clear c12b1
           try clear c15
           try clear c17
           try clear c17b0
           try clear c17b1
           try clear c20
           try clear c21
           try clear c21b0
           try clear c21b1
           try clear c24
           try clear c24b0
           try clear c24b1
           try clear hcz11_0
           try clear hcz11_1
           try clear hcz11_10
           try clear hcz11_2
           try clear hcz11_3
           try clear hcz11_4
           try clear hcz11_5
           try clear hcz11_6
           try clear hcz11_7
           try clear hcz11_8
           try clear hcz11_9
           try clear hcz13_0
           try clear hcz13_1
           try clear hcz13_10
           try clear hcz13_2
           try clear hcz13_3
           try clear hcz13_4
           try clear hcz13_5
           try clear hcz13_6
           try clear hcz13_7
           try clear hcz13_8
           try clear hcz13_9
           try clear hcz14_0
           try clear hcz14_1
           try clear hcz14_10
           try clear hcz14_2
           try clear hcz14_3
           try clear hcz14_4
           try clear hcz14_5
           try clear hcz14_6
           try clear hcz14_7
           try clear hcz14_8
           try clear hcz14_9
           try clear hcz18_0
           try clear hcz18_1
           try clear hcz18_10
           try clear hcz18_2
           try clear hcz18_3
           try clear hcz18_4
           try clear hcz18_5
           try clear hcz18_6
           try clear hcz18_7
           try clear hcz18_8
           try clear hcz18_9
           try clear hcz19_0
           try clear hcz19_1
           try clear hcz19_10
           try clear hcz19_2
           try clear hcz19_3
           try clear hcz19_4
           try clear hcz19_5
           try clear hcz19_6
           try clear hcz19_7
           try clear hcz19_8
           try clear hcz19_9
           try clear hcz23_0
           try clear hcz23_1
           try clear hcz23_10
           try clear hcz23_2
           try clear hcz23_3
           try clear hcz23_4
           try clear hcz23_5
           try clear hcz23_6
           try clear hcz23_7
           try clear hcz23_8
           try clear hcz23_9
           try clear hcz25_0
           try clear hcz25_1
           try clear hcz25_10
           try clear hcz25_2
           try clear hcz25_3
           try clear hcz25_4
           try clear hcz25_5
           try clear hcz25_6
           try clear hcz25_7
           try clear hcz25_8
           try clear hcz25_9
           try clear hcz6_0
           try clear hcz6_1
           try clear hcz6_10
           try clear hcz6_2
           try clear hcz6_3
           try clear hcz6_4
           try clear hcz6_5
           try clear hcz6_6
           try clear hcz6_7
           try clear hcz6_8
           try clear hcz6_9
           try clear hcz7_0
           try clear hcz7_1
           try clear hcz7_10
           try clear hcz7_2
           try clear hcz7_3
           try clear hcz7_4
           try clear hcz7_5
           try clear hcz7_6
           try clear hcz7_7
           try clear hcz7_8
           try clear hcz7_9
           try clear hfz11_0
           try clear hfz11_1
           try clear hfz11_10
           try clear hfz11_2
           try clear hfz11_3
           try clear hfz11_4
           try clear hfz11_5
           try clear hfz11_6
           try clear hfz11_7
           try clear hfz11_8
           try clear hfz11_9
           try clear hfz13_0
           try clear hfz13_1
           try clear hfz13_10
           try clear hfz13_2
           try clear hfz13_3
           try clear hfz13_4
           try clear hfz13_5
           try clear hfz13_6
           try clear hfz13_7
           try clear hfz13_8
           try clear hfz13_9
           try clear hfz14_0
           try clear hfz14_1
           try clear hfz14_10
           try clear hfz14_2
           try clear hfz14_3
           try clear hfz14_4
           try clear hfz14_5
           try clear hfz14_6
           try clear hfz14_7
           try clear hfz14_8
           try clear hfz14_9
           try clear hfz18_0
           try clear hfz18_1
           try clear hfz18_10
           try clear hfz18_2
           try clear hfz18_3
           try clear hfz18_4
           try clear hfz18_5
           try clear hfz18_6
           try clear hfz18_7
           try clear hfz18_8
           try clear hfz18_9
           try clear hfz19_0
           try clear hfz19_1
           try clear hfz19_10
           try clear hfz19_2
           try clear hfz19_3
           try clear hfz19_4
           try clear hfz19_5
           try clear hfz19_6
           try clear hfz19_7
           try clear hfz19_8
           try clear hfz19_9
           try clear hfz23_0
           try clear hfz23_1
           try clear hfz23_10
           try clear hfz23_2
           try clear hfz23_3
           try clear hfz23_4
           try clear hfz23_5
           try clear hfz23_6
           try clear hfz23_7
           try clear hfz23_8
           try clear hfz23_9
           try clear hfz25_0
           try clear hfz25_1
           try clear hfz25_10
           try clear hfz25_2
           try clear hfz25_3
           try clear hfz25_4
           try clear hfz25_5
           try clear hfz25_6
           try clear hfz25_7
           try clear hfz25_8
           try clear hfz25_9
           try clear hfz6_0
           try clear hfz6_1
           try clear hfz6_10
           try clear hfz6_2
           try clear hfz6_3
           try clear hfz6_4
           try clear hfz6_5
           try clear hfz6_6
           try clear hfz6_7
           try clear hfz6_8
           try clear hfz6_9
           try clear hfz7_0
           try clear hfz7_1
           try clear hfz7_10
           try clear hfz7_2
           try clear hfz7_3
           try clear hfz7_4
           try clear hfz7_5
           try clear hfz7_6
           try clear hfz7_7
           try clear hfz7_8
           try clear hfz7_9
           try clear p2
           obtain ⟨kq,x40_21,rfl,HA,HJ21,BK159,HB⟩:=hcut
           cases kq with
           | zero => exact absurd HA.out (by simp [impl_Scan_verdict.j3])
           | succ kj21 =>
            have H:=HA.out
            clear HA
            simp only [impl_Scan_verdict.j3] at H
            by_cases c26 : x40_21 = true
            ·subst c26
             have H1 : (some 4) = some r:=by rw [if_pos rfl] at H;exact H
             clear H
             have H:=H1
             clear H1
             obtain rfl:=Option.some.inj H
             go_wp2
             go_ret
             exact ⟨by first | rfl | (simp [errW_none,errW_some] <;> rfl) | (simp [*,errW_none,errW_some] <;> rfl),by repeat (first | (with_reducible first | exact HB.out | apply below_alloc | apply pw_below_drewN | apply below_drew1 | refine below_set ?_ GE159.out) | exact HB.out)⟩
            ·replace c26:=Bool.eq_false_iff.mpr c26
             subst c26
             have H1 : (if a1 = 0 then (some 6) else (if a0_1 = 2 then (some 1) else (if a0_1 = 1 then (some 2) else (some 0)))) = some r:=by rw [if_neg (show ¬ (false = true) by decide)] at H;exact H
             clear H
             have H:=H1
             clear H1
             by_cases c27 : a1 = 0
             ·rw [if_pos c27] at H
              have c27b0 : (a1 == 0) = true:=beq_iff_eq.mpr c27
              have c27b1 : (a1 != 0) = false:=bne_eq_false_iff_eq.mpr c27
              clear c27
              obtain rfl:=Option.some.inj H
              go_wp2
              go_ret
              exact ⟨by first | rfl | (simp [errW_none,errW_some] <;> rfl) | (simp [*,errW_none,errW_some] <;> rfl),by repeat (first | (with_reducible first | exact HB.out | apply below_alloc | apply pw_below_drewN | apply below_drew1 | refine below_set ?_ GE159.out) | exact HB.out)⟩
             ·rw [if_neg c27] at H
              have c27b0 : (a1 == 0) = false:=beq_eq_false_iff_ne.mpr c27
              have c27b1 : (a1 != 0) = true:=bne_iff_ne.mpr c27
              by_cases c28 : a0_1 = 2
              ·rw [if_pos c28] at H
               have c28b0 : (a0_1 == 2) = true:=beq_iff_eq.mpr c28
               have c28b1 : (a0_1 != 2) = false:=bne_eq_false_iff_eq.mpr c28
               clear c28
               obtain rfl:=Option.some.inj H
               obtain ⟨hcz29_0,hcz29_1,hcz29_2,hcz29_3,hcz29_4,hcz29_5,hcz29_6,hcz29_7,hcz29_8,hcz29_9,hcz29_10⟩:=bc11 BK159.out
               obtain ⟨hfz29_0,hfz29_1,hfz29_2,hfz29_3,hfz29_4,hfz29_5,hfz29_6,hfz29_7,hfz29_8,hfz29_9,hfz29_10⟩:=bf11 BK159.out
               go_wp2
               go_ret
               exact ⟨by first | rfl | (simp [errW_none,errW_some] <;> rfl) | (simp [*,errW_none,errW_some] <;> rfl),by repeat (first | (with_reducible first | exact HB.out | apply below_alloc | apply pw_below_drewN | apply below_drew1 | refine below_set ?_ GE159.out) | exact HB.out)⟩
              ·rw [if_neg c28] at H
               have c28b0 : (a0_1 == 2) = false:=beq_eq_false_iff_ne.mpr c28
               have c28b1 : (a0_1 != 2) = true:=bne_iff_ne.mpr c28
               by_cases c30 : a0_1 = 1
               ·rw [if_pos c30] at H
                have c30b0 : (a0_1 == 1) = true:=beq_iff_eq.mpr c30
                have c30b1 : (a0_1 != 1) = false:=bne_eq_false_iff_eq.mpr c30
                clear c30
                obtain rfl:=Option.some.inj H
                obtain ⟨hcz31_0,hcz31_1,hcz31_2,hcz31_3,hcz31_4,hcz31_5,hcz31_6,hcz31_7,hcz31_8,hcz31_9,hcz31_10⟩:=bc11 BK159.out
                obtain ⟨hfz31_0,hfz31_1,hfz31_2,hfz31_3,hfz31_4,hfz31_5,hfz31_6,hfz31_7,hfz31_8,hfz31_9,hfz31_10⟩:=bf11 BK159.out
                go_wp2
                go_ret
                exact ⟨by first | rfl | (simp [errW_none,errW_some] <;> rfl) | (simp [*,errW_none,errW_some] <;> rfl),by repeat (first | (with_reducible first | exact HB.out | apply below_alloc | apply pw_below_drewN | apply below_drew1 | refine below_set ?_ GE159.out) | exact HB.out)⟩
               ·rw [if_neg c30] at H
                have c30b0 : (a0_1 == 1) = false:=beq_eq_false_iff_ne.mpr c30
                have c30b1 : (a0_1 != 1) = true:=bne_iff_ne.mpr c30
                obtain rfl:=Option.some.inj H
                obtain ⟨hcz32_0,hcz32_1,hcz32_2,hcz32_3,hcz32_4,hcz32_5,hcz32_6,hcz32_7,hcz32_8,hcz32_9,hcz32_10⟩:=bc11 BK159.out
                obtain ⟨hfz32_0,hfz32_1,hfz32_2,hfz32_3,hfz32_4,hfz32_5,hfz32_6,hfz32_7,hfz32_8,hfz32_9,hfz32_10⟩:=bf11 BK159.out
                go_wp2
                go_ret
                exact ⟨by first | rfl | (simp [errW_none,errW_some] <;> rfl) | (simp [*,errW_none,errW_some] <;> rfl),by repeat (first | (with_reducible first | exact HB.out | apply below_alloc | apply pw_below_drewN | apply below_drew1 | refine below_set ?_ GE159.out) | exact HB.out)⟩
         ·rw [if_neg c21] at H
          have c21b0 : (a0_0 == 14) = false:=beq_eq_false_iff_ne.mpr c21
          have c21b1 : (a0_0 != 14) = true:=bne_iff_ne.mpr c21
          obtain rfl:=Option.some.inj H
          obtain ⟨hcz33_0,hcz33_1,hcz33_2,hcz33_3,hcz33_4,hcz33_5,hcz33_6,hcz33_7,hcz33_8,hcz33_9,hcz33_10⟩:=bc11 BK159.out
          obtain ⟨hfz33_0,hfz33_1,hfz33_2,hfz33_3,hfz33_4,hfz33_5,hfz33_6,hfz33_7,hfz33_8,hfz33_9,hfz33_10⟩:=bf11 BK159.out
          go_wp2
          go_ret
          exact ⟨by first | rfl | (simp [errW_none,errW_some] <;> rfl) | (simp [*,errW_none,errW_some] <;> rfl),by repeat (first | (with_reducible first | exact HB.out | apply below_alloc | apply pw_below_drewN | apply below_drew1 | refine below_set ?_ GE159.out) | exact HB.out)⟩
end Go.Proofs.YtdoclpgciadjaaaDoor.P

namespace Go.Proofs.YtdoclpgciadjaaaDoor.P
open Go.RowKit Go.Proofs.YtdoclpgciadjaaaDoorW.PrintWords Go.Proofs.YtdoclpgciadjaaaDoorW.PrintLast Go.Proofs.YtdoclpgciadjaaaDoorW.PrintMore
set_option linter.unusedVariables false
set_option linter.unusedSimpArgs false
def impl_fieldAfter.f (a0 : Int) (a1_0 : Bool) (a1_1 : Int) (a1_2 : Bool) (a1_3 : Int) (l1_4 : List Int) : Option (Int):=if a0 = 4 ∧ a1_0 = false then some 7 else if a0 = 8 ∧ (a1_2 = true ∨ a1_3 = 0) then some 10 else if 0 ≤ a0 ∧ a0 < 15 then some (rowsL.getD (a0.toNat * 2 + 1) 0) else none
theorem after_tab (a0 : Int) (a1_0 : Bool) (a1_1 : Int) (a1_2 : Bool) (a1_3 : Int) (A1_4 : Option Addr) (c1_4 n1_4 : Nat) (w : World) (hG : LaidRows w) (c4 : ¬ (a0 = 4 ∧ a1_0 = false)) (c8 : ¬ (a0 = 8 ∧ (a1_2 = true ∨ a1_3 = 0))) (cr : 0 ≤ a0 ∧ a0 < 15) :
  Calls Tryd.prog 32 #[.int .i64 a0, .agg #[.bool a1_0, .int .u32 a1_1, .bool a1_2, .int .i64 a1_3, .slice A1_4 n1_4 c1_4]] w fun e w' => e = .returned (.int .i64 (rowsL.getD (a0.toNat * 2 + 1) 0)) ∧ Below w.heap.size w w':=by
 obtain ⟨n,rfl⟩ : ∃ n : Nat,a0 = (n : Int):=⟨a0.toNat,by omega⟩
 have hcell : w.cell? ⟨0,n * 2 + 1,none⟩ = some (.int .i64 (rowsL.getD (n * 2 + 1) 0)):=hG.at_ (n * 2 + 1) (by omega)
 have p0 : (0 ≤ (n : Int)) = True:=eq_true (by omega)
 have q0 : ((n : Int) < 15) = True:=eq_true (by omega)
 have h0:=hG.pos
 rw [Int.toNat_natCast]
 obtain ⟨R,hR⟩ : ∃ R,rowsL.getD (n * 2 + 1) 0 = R:=⟨_,rfl⟩
 rw [hR] at hcell ⊢
 have cr1:=cr.2
 clear cr hG hR
 by_cases n4 : (n : Int) = 4
 ·have b4 : ((n : Int) == 4) = true:=beq_iff_eq.mpr n4
  have b8 : ((n : Int) == 8) = false:=beq_eq_false_iff_ne.mpr (by omega)
  cases a1_0 with
  | false => exact absurd ⟨n4,rfl⟩ c4
  | true =>
   clear c4 c8 n4 cr1
   go_enter Tryd.func32,Tryd.ntmps32
   go_wp2_with (fail)
   go_ret
   exact ⟨rfl,(Below.refl _ _).alloc (Nat.le_refl _) _⟩
 have b4 : ((n : Int) == 4) = false:=beq_eq_false_iff_ne.mpr n4
 by_cases n8 : (n : Int) = 8
 ·have b8 : ((n : Int) == 8) = true:=beq_iff_eq.mpr n8
  have d3 : ¬ a1_3 = 0:=fun e => c8 ⟨n8, .inr e⟩
  have bd : (a1_3 == 0) = false:=beq_eq_false_iff_ne.mpr d3
  cases a1_2 with
  | true => exact absurd ⟨n8, .inl rfl⟩ c8
  | false =>
   clear c4 c8 n4 n8 cr1 d3
   go_enter Tryd.func32,Tryd.ntmps32
   go_wp2_with (fail)
   go_ret
   exact ⟨rfl,(Below.refl _ _).alloc (Nat.le_refl _) _⟩
 have b8 : ((n : Int) == 8) = false:=beq_eq_false_iff_ne.mpr n8
 clear c4 c8 n4 n8 cr1
 go_enter Tryd.func32,Tryd.ntmps32
 go_wp2_with (fail)
 go_ret
 exact ⟨rfl,(Below.refl _ _).alloc (Nat.le_refl _) _⟩
theorem impl_fieldAfter.calls (a0 : Int) (a1_0 : Bool) (a1_1 : Int) (a1_2 : Bool) (a1_3 : Int) (A1_4 : Option Addr) (c1_4 : Nat) (l1_4 : List Int) (r : Int) (w : World) (hr1_4 : Kd.C (Kd.int .u8) w A1_4 l1_4.length l1_4) (hc1_4 : l1_4.length ≤ c1_4) (h : impl_fieldAfter.f a0 a1_0 a1_1 a1_2 a1_3 l1_4 = some r) (hG : LaidRows w) :
  Calls Tryd.prog 32 #[.int .i64 a0, .agg #[.bool a1_0, .int .u32 a1_1, .bool a1_2, .int .i64 a1_3, .slice A1_4 l1_4.length c1_4]] w fun e w' => e = .returned (.int .i64 r) ∧ Below w.heap.size w w':=by
 unfold impl_fieldAfter.f at h
 clear hr1_4 hc1_4
 by_cases c4 : a0 = 4 ∧ a1_0 = false
 ·obtain ⟨rfl,rfl⟩:=c4
  rw [if_pos ⟨rfl,rfl⟩] at h
  obtain rfl:=Option.some.inj h
  clear h hG
  go_enter Tryd.func32,Tryd.ntmps32
  go_wp2_with (fail)
  go_ret
  exact ⟨rfl,(Below.refl _ _).alloc (Nat.le_refl _) _⟩
 rw [if_neg c4] at h
 by_cases c8 : a0 = 8 ∧ (a1_2 = true ∨ a1_3 = 0)
 ·rw [if_pos c8] at h
  obtain rfl:=Option.some.inj h
  obtain ⟨rfl,c8⟩:=c8
  clear h hG c4
  cases a1_2 with
  | true =>
   go_enter Tryd.func32,Tryd.ntmps32
   go_wp2_with (fail)
   go_ret
   exact ⟨rfl,(Below.refl _ _).alloc (Nat.le_refl _) _⟩
  | false =>
   obtain rfl : a1_3 = 0:=by rcases c8 with h | h;cases h;exact h
   clear c8
   go_enter Tryd.func32,Tryd.ntmps32
   go_wp2_with (fail)
   go_ret
   exact ⟨rfl,(Below.refl _ _).alloc (Nat.le_refl _) _⟩
 rw [if_neg c8] at h
 by_cases cr : 0 ≤ a0 ∧ a0 < 15
 ·rw [if_pos cr] at h
  obtain rfl:=Option.some.inj h
  exact after_tab a0 a1_0 a1_1 a1_2 a1_3 A1_4 c1_4 l1_4.length w hG c4 c8 cr
 ·rw [if_neg cr] at h
  cases h
end Go.Proofs.YtdoclpgciadjaaaDoor.P

namespace Go.Proofs.YtdoclpgciadjaaaDoor.P
open Go.RowKit Go.Proofs.YtdoclpgciadjaaaDoorW.PrintWords Go.Proofs.YtdoclpgciadjaaaDoorW.PrintLast Go.Proofs.YtdoclpgciadjaaaDoorW.PrintMore
set_option linter.unusedVariables false
set_option linter.unusedSimpArgs false
theorem impl_crcBit.same (a0 : Int) (a1 : Int) (w : World) :
  Calls Tryd.prog 30 #[.int .i64 a0, .int .i64 a1] w fun e w' => e = .returned (.int .i64 (crcI a0 a1)) ∧ w = w':=by
 by_cases c3 : (Go.bits .xor .i64 (Go.bits .and .i64 (a0 / 16384) 1) a1) = 1
 ·have c3b0 : ((Go.bits .xor .i64 (Go.bits .and .i64 (a0 / 16384) 1) a1) == 1) = true:=beq_iff_eq.mpr c3
  have HC:=Lib.hid c3
  clear c3
  go_enter Tryd.func30,Tryd.ntmps30
  go_wp2
  go_ret
  exact ⟨by unfold crcI;rw [if_pos HC.out];rfl,rfl⟩
 ·have c3b0 : ((Go.bits .xor .i64 (Go.bits .and .i64 (a0 / 16384) 1) a1) == 1) = false:=beq_eq_false_iff_ne.mpr c3
  have HC:=Lib.hid c3
  clear c3
  go_enter Tryd.func30,Tryd.ntmps30
  go_wp2
  go_ret
  exact ⟨by unfold crcI;rw [if_neg HC.out];rfl,rfl⟩
end Go.Proofs.YtdoclpgciadjaaaDoor.P

namespace Go.Proofs.YtdoclpgciadjaaaDoor.P
open Go Go.RowKit Go.Proofs.YtdoclpgciadjaaaDoorW.PrintWords
set_option linter.unusedVariables false
def bytesOk (l : List Int) : Bool:=l.all fun x => decide (0 ≤ x) && decide (x < 256)
theorem bytesOk_mem {l : List Int} (h : bytesOk l = true) : ∀ x ∈ l,0 ≤ x ∧ x < 256:=fun x hx => by
 have:=List.all_eq_true.1 h x hx
 simpa using this
theorem bytesOk_of {l : List Int} (h : ∀ y ∈ l,(Lit.int .u8 y).wf = true) : bytesOk l = true:=by
 refine List.all_eq_true.2 fun x hx => ?_
 have:=h x hx
 simp [Lit.wf,show IntKind.u8.min = 0 from rfl,show IntKind.u8.max = 255 from rfl] at this ⊢
 omega
def zeroS : SS:=⟨0,0,0,0,0,0,false,0,false,0, []⟩
def sizeF (s : SS) : Int:=if s.field = 7 ∧ s.ext = true then 2 else if s.field = 9 then 8 * (if s.dlc < 8 then s.dlc else 8) else rowsL.getD (s.field.toNat * 2) 0
def afterF (s : SS) : Int:=if s.field = 4 ∧ s.ext = false then 7 else if s.field = 8 ∧ (s.rtr = true ∨ s.dlc = 0) then 10 else rowsL.getD (s.field.toNat * 2 + 1) 0
structure Sound (s : SS) : Prop where
 f0 : 1 ≤ s.field
 f1 : s.field ≤ 14
 i1 : s.id < 536870912
 d0 : 0 ≤ s.dlc
 d1 : s.dlc ≤ 15
 dl : (s.data.length : Int) ≤ 8
 l0 : 1 ≤ s.left
 l1 : s.left ≤ sizeF s
 r0 : 0 ≤ s.run
 r1 : s.run ≤ 5
 v0 : 0 ≤ s.level
 v1 : s.level ≤ 1
 q : s.run = 0 ↔ (s.field = 1 ∨ s.field > 11)
 z : s.run = 0 → s.level = 0
 c0 : 0 ≤ s.crc
 c1 : s.crc ≤ 32767
 a0 : 0 ≤ s.acc
 a1 : s.acc ≤ 32767
 nine : s.field = 9 → s.rtr = false ∧ 0 < s.dlc ∧ (s.data.length : Int) = (sizeF s - s.left + 7) / 8
instance soundDec (s : SS) : Decidable (Sound s) :=
 decidable_of_iff ((1 ≤ s.field) ∧ (s.field ≤ 14) ∧ (s.id < 536870912) ∧ (0 ≤ s.dlc) ∧ (s.dlc ≤ 15) ∧ ((s.data.length : Int) ≤ 8) ∧ (1 ≤ s.left) ∧ (s.left ≤ sizeF s) ∧ (0 ≤ s.run) ∧ (s.run ≤ 5) ∧ (0 ≤ s.level) ∧ (s.level ≤ 1) ∧ (s.run = 0 ↔ (s.field = 1 ∨ s.field > 11)) ∧ (s.run = 0 → s.level = 0) ∧ (0 ≤ s.crc) ∧ (s.crc ≤ 32767) ∧ (0 ≤ s.acc) ∧ (s.acc ≤ 32767) ∧ (s.field = 9 → s.rtr = false ∧ 0 < s.dlc ∧ (s.data.length : Int) = (sizeF s - s.left + 7) / 8)) ⟨fun ⟨f0,f1,i1,d0,d1,dl,l0,l1,r0,r1,v0,v1,q,z,c0,c1,a0,a1,nine⟩ => ⟨f0,f1,i1,d0,d1,dl,l0,l1,r0,r1,v0,v1,q,z,c0,c1,a0,a1,nine⟩,fun h => ⟨h.f0,h.f1,h.i1,h.d0,h.d1,h.dl,h.l0,h.l1,h.r0,h.r1,h.v0,h.v1,h.q,h.z,h.c0,h.c1,h.a0,h.a1,h.nine⟩⟩
theorem sizeF_le {s : SS} (f0 : 1 ≤ s.field) (f1 : s.field ≤ 14) (d0 : 0 ≤ s.dlc) : 0 ≤ sizeF s ∧ sizeF s ≤ 64:=by
 unfold sizeF
 by_cases c7 : s.field = 7 ∧ s.ext = true
 ·rw [if_pos c7];omega
 rw [if_neg c7]
 by_cases c9 : s.field = 9
 ·rw [if_pos c9];split <;> omega
 rw [if_neg c9]
 obtain ⟨n,hn⟩ : ∃ n : Nat,s.field = (n : Int):=⟨s.field.toNat,by omega⟩
 rw [hn,Int.toNat_natCast]
 have h14 : n < 15:=by omega
 have : ∀ m : Fin 15,0 ≤ rowsL.getD (m.val * 2) 0 ∧ rowsL.getD (m.val * 2) 0 ≤ 64:=by decide
 exact this ⟨n,h14⟩
theorem sizeI {s : SS} (f0 : 1 ≤ s.field) (f1 : s.field ≤ 14) (d0 : 0 ≤ s.dlc) (d1 : s.dlc ≤ 15) : impl_fieldSize.f s.field s.ext s.id s.rtr s.dlc s.data = some (sizeF s):=by
 unfold impl_fieldSize.f sizeF
 by_cases c7 : s.field = 7 ∧ s.ext = true
 ·rw [if_pos c7,if_pos c7]
 rw [if_neg c7,if_neg c7]
 by_cases c9 : s.field = 9
 ·rw [if_pos c9,if_pos c9]
  congr 1
  split <;> rw [w64 (by omega) (by omega)]
 rw [if_neg c9,if_neg c9,if_pos (by omega)]
theorem afterI {s : SS} (f0 : 1 ≤ s.field) (f1 : s.field ≤ 14) : impl_fieldAfter.f s.field s.ext s.id s.rtr s.dlc s.data = some (afterF s):=by
 unfold impl_fieldAfter.f afterF
 by_cases c4 : s.field = 4 ∧ s.ext = false
 ·rw [if_pos c4,if_pos c4]
 rw [if_neg c4,if_neg c4]
 by_cases c8 : s.field = 8 ∧ (s.rtr = true ∨ s.dlc = 0)
 ·rw [if_pos c8,if_pos c8]
 rw [if_neg c8,if_neg c8,if_pos (by omega)]
def soundB (s : SS) : Bool:=decide (Sound s)
theorem soundB_true {s : SS} (h : Sound s) : soundB s = true:=decide_eq_true h
theorem soundB_false {s : SS} (h : ¬ Sound s) : soundB s = false:=decide_eq_false h
theorem soundI (s : SS) : impl_Scan_sound.f 10 s.field s.left s.run s.level s.crc s.acc s.ext s.id s.rtr s.dlc s.data = some (soundB s):=by
 unfold impl_Scan_sound.f
 have j0t : impl_Scan_sound.j0 10 true s.field s.left s.run s.level s.crc s.acc s.ext s.id s.rtr s.dlc s.data = some false:=by simp only [impl_Scan_sound.j0,if_true]
 by_cases f0 : s.field < 1
 ·rw [if_pos f0,j0t,soundB_false (fun h => by have:=h.f0;omega)]
 rw [if_neg f0]
 by_cases f1 : s.field > 14
 ·rw [if_pos f1,j0t,soundB_false (fun h => by have:=h.f1;omega)]
 rw [if_neg f1]
 by_cases i1 : s.id ≥ 536870912
 ·rw [if_pos i1,j0t,soundB_false (fun h => by have:=h.i1;omega)]
 rw [if_neg i1]
 by_cases d0 : s.dlc < 0
 ·rw [if_pos d0,j0t,soundB_false (fun h => by have:=h.d0;omega)]
 rw [if_neg d0]
 by_cases d1 : s.dlc > 15
 ·rw [if_pos d1,j0t,soundB_false (fun h => by have:=h.d1;omega)]
 rw [if_neg d1]
 by_cases dl : (s.data.length : Int) > 8
 ·rw [decide_eq_true dl,j0t,soundB_false (fun h => by have:=h.dl;omega)]
 rw [decide_eq_false dl]
 simp only [impl_Scan_sound.j0]
 rw [if_neg Bool.false_ne_true,sizeI (by omega) (by omega) (by omega) (by omega),Option.bind_some]
 have hsz:=sizeF_le (s:=s) (by omega) (by omega) (by omega)
 by_cases l0 : s.left < 1
 ·rw [if_pos l0];simp only [impl_Scan_sound.j1,if_true];rw [soundB_false (fun h => by have:=h.l0;omega)]
 rw [if_neg l0]
 by_cases l1 : s.left > sizeF s
 ·rw [if_pos l1];simp only [impl_Scan_sound.j1,if_true];rw [soundB_false (fun h => by have:=h.l1;omega)]
 rw [if_neg l1]
 by_cases r0 : s.run < 0
 ·rw [if_pos r0];simp only [impl_Scan_sound.j1,if_true];rw [soundB_false (fun h => by have:=h.r0;omega)]
 rw [if_neg r0]
 by_cases r1 : s.run > 5
 ·rw [if_pos r1];simp only [impl_Scan_sound.j1,if_true];rw [soundB_false (fun h => by have:=h.r1;omega)]
 rw [if_neg r1]
 by_cases v0 : s.level < 0
 ·rw [if_pos v0];simp only [impl_Scan_sound.j1,if_true];rw [soundB_false (fun h => by have:=h.v0;omega)]
 rw [if_neg v0]
 by_cases v1 : s.level > 1
 ·rw [decide_eq_true v1];simp only [impl_Scan_sound.j1,if_true];rw [soundB_false (fun h => by have:=h.v1;omega)]
 rw [decide_eq_false v1]
 simp only [impl_Scan_sound.j1]
 rw [if_neg Bool.false_ne_true]
 have j2t : impl_Scan_sound.j2 8 (sizeF s) true s.field s.left s.run s.level s.crc s.acc s.ext s.id s.rtr s.dlc s.data = some false:=by simp only [impl_Scan_sound.j2,if_true]
 have last : ((s.run = 0 ↔ (s.field = 1 ∨ s.field > 11)) ∧ (s.run = 0 → s.level = 0)) → impl_Scan_sound.j2 8 (sizeF s) false s.field s.left s.run s.level s.crc s.acc s.ext s.id s.rtr s.dlc s.data = some (soundB s):=by
  rintro ⟨hq,hz⟩
  simp only [impl_Scan_sound.j2]
  rw [if_neg Bool.false_ne_true]
  by_cases c0 : s.crc < 0
  ·rw [if_pos c0];simp only [impl_Scan_sound.j3,if_true];rw [soundB_false (fun h => by have:=h.c0;omega)]
  rw [if_neg c0]
  by_cases c1 : s.crc > 32767
  ·rw [if_pos c1];simp only [impl_Scan_sound.j3,if_true];rw [soundB_false (fun h => by have:=h.c1;omega)]
  rw [if_neg c1]
  by_cases a0 : s.acc < 0
  ·rw [if_pos a0];simp only [impl_Scan_sound.j3,if_true];rw [soundB_false (fun h => by have:=h.a0;omega)]
  rw [if_neg a0]
  by_cases a1 : s.acc > 32767
  ·rw [decide_eq_true a1];simp only [impl_Scan_sound.j3,if_true];rw [soundB_false (fun h => by have:=h.a1;omega)]
  rw [decide_eq_false a1]
  simp only [impl_Scan_sound.j3]
  rw [if_neg Bool.false_ne_true]
  by_cases f9 : s.field = 9
  ·rw [if_pos f9]
   by_cases hr : s.rtr = true
   ·rw [if_pos hr,soundB_false (fun h => by have:=(h.nine f9).1;rw [hr] at this;cases this)]
   rw [if_neg hr]
   by_cases hd : s.dlc > 0
   ·rw [if_pos hd]
    have e1 : wrap64 (sizeF s - s.left) = sizeF s - s.left:=w64 (by omega) (by omega)
    have e2 : wrap64 (sizeF s - s.left + 7) = sizeF s - s.left + 7:=w64 (by omega) (by omega)
    have e3 : Int.tdiv (sizeF s - s.left + 7) 8 = (sizeF s - s.left + 7) / 8:=Int.tdiv_eq_ediv_of_nonneg (by omega)
    have e4 : wrap64 ((sizeF s - s.left + 7) / 8) = (sizeF s - s.left + 7) / 8:=w64 (by omega) (by omega)
    rw [e1,e2,e3,e4]
    by_cases hl : (s.data.length : Int) = (sizeF s - s.left + 7) / 8
    ·rw [beq_iff_eq.mpr hl,soundB_true ⟨by omega,by omega,by omega,by omega,by omega,by omega,by omega,by omega,by omega,by omega,by omega,by omega,hq,hz,by omega,by omega,by omega,by omega,fun _ => ⟨by simpa using hr,hd,hl⟩⟩]
    ·rw [beq_eq_false_iff_ne.mpr hl,soundB_false (fun h => hl (h.nine f9).2.2)]
   ·rw [if_neg hd,soundB_false (fun h => hd (h.nine f9).2.1)]
  ·rw [if_neg f9,soundB_true ⟨by omega,by omega,by omega,by omega,by omega,by omega,by omega,by omega,by omega,by omega,by omega,by omega,hq,hz,by omega,by omega,by omega,by omega,fun h => absurd h f9⟩]
 have level : s.run = 0 → (s.run = 0 ↔ (s.field = 1 ∨ s.field > 11)) → impl_Scan_sound.j2 8 (sizeF s) (s.level != 0) s.field s.left s.run s.level s.crc s.acc s.ext s.id s.rtr s.dlc s.data = some (soundB s):=by
  intro hr hq
  by_cases hv : s.level = 0
  ·rw [bne_eq_false_iff_eq.mpr hv];exact last ⟨hq,fun _ => hv⟩
  ·rw [bne_iff_ne.mpr hv,j2t,soundB_false (fun h => hv (h.z hr))]
 by_cases f1e : s.field = 1
 ·rw [if_pos f1e]
  by_cases hr : s.run = 0
  ·rw [if_neg (by simp [hr]),if_pos hr]
   exact level hr ⟨fun _ => .inl f1e,fun _ => hr⟩
  ·rw [if_pos (by simp [hr]),j2t,soundB_false (fun h => hr (h.q.2 (.inl f1e)))]
 ·rw [if_neg f1e]
  by_cases hf : s.field > 11
  ·rw [decide_eq_true hf]
   by_cases hr : s.run = 0
   ·rw [if_neg (by simp [hr]),if_pos hr]
    exact level hr ⟨fun _ => .inr hf,fun _ => hr⟩
   ·rw [if_pos (by simp [hr]),j2t,soundB_false (fun h => hr (h.q.2 (.inr hf)))]
  ·rw [decide_eq_false hf]
   by_cases hr : s.run = 0
   ·rw [if_pos (by simp [hr]),j2t,soundB_false (fun h => by rcases h.q.1 hr with h | h;exact f1e h;exact hf h)]
   ·rw [if_neg (by simp [hr]),if_neg hr]
    exact last ⟨⟨fun h => absurd h hr,fun h => by rcases h with h | h;exact absurd h f1e;exact absurd h hf⟩,fun h => absurd h hr⟩
def verdictV (s : SS) (b : Int) : Int :=
 if (s.field = 1 ∧ b = 1) ∨ ((s.field = 11 ∨ s.field = 13) ∧ b = 0) then 4 else if s.field = 13 ∧ s.acc ≠ s.crc then 5 else if s.field ≠ 14 then 0
 else if b = 0 ∧ 1 < s.left then 4 else if b = 0 then 6 else if s.left = 2 then 1 else if s.left = 1 then 2 else 0
theorem verdictI (s : SS) (b : Int) : impl_Scan_verdict.f 10 s.field s.left s.run s.level s.crc s.acc s.ext s.id s.rtr s.dlc s.data b = some (verdictV s b):=by
 unfold impl_Scan_verdict.f verdictV
 have j3 : ∀ k,impl_Scan_verdict.j3 (k + 1) b (decide (s.left > 1) && (b == 0)) s.field s.left s.run s.level s.crc s.acc s.ext s.id s.rtr s.dlc s.data = some (if b = 0 ∧ 1 < s.left then 4 else if b = 0 then 6 else if s.left = 2 then 1 else if s.left = 1 then 2 else 0):=by
  intro k
  simp only [impl_Scan_verdict.j3]
  by_cases c : b = 0 ∧ 1 < s.left
  ·rw [if_pos (by simp [c.1];exact c.2),if_pos c]
  ·rw [if_neg (by simp;intro h1 h2;exact c ⟨h2,h1⟩),if_neg c]
   by_cases c0 : b = 0
   ·rw [if_pos c0,if_pos c0]
   rw [if_neg c0,if_neg c0]
   by_cases c2 : s.left = 2
   ·rw [if_pos c2,if_pos c2]
   rw [if_neg c2,if_neg c2]
   by_cases c1 : s.left = 1
   ·rw [if_pos c1,if_pos c1]
   ·rw [if_neg c1,if_neg c1]
 have j2 : ∀ k,impl_Scan_verdict.j2 (k + 2) b (decide (s.field = 13) && (s.acc != s.crc)) s.field s.left s.run s.level s.crc s.acc s.ext s.id s.rtr s.dlc s.data = some (if s.field = 13 ∧ s.acc ≠ s.crc then 5 else if s.field ≠ 14 then 0 else if b = 0 ∧ 1 < s.left then 4 else if b = 0 then 6 else if s.left = 2 then 1 else if s.left = 1 then 2 else 0):=by
  intro k
  simp only [impl_Scan_verdict.j2]
  by_cases c : s.field = 13 ∧ s.acc ≠ s.crc
  ·rw [if_pos (by simp [c.1];exact c.2),if_pos c]
  ·rw [if_neg (by simp;intro h1;by_cases h2 : s.acc = s.crc;exact h2;exact absurd ⟨h1,h2⟩ c),if_neg c]
   by_cases c14 : s.field = 14
   ·rw [if_pos c14,if_neg (show ¬ (s.field ≠ 14) from fun h => h c14)]
    have:=j3 k
    by_cases c0 : b = 0
    ·rw [if_pos c0];rw [beq_iff_eq.mpr c0,Bool.and_true] at this;exact this
    ·rw [if_neg c0];rw [beq_eq_false_iff_ne.mpr c0,Bool.and_false] at this;exact this
   ·rw [if_neg c14,if_pos c14]
 have j1 : ∀ k x,(x = true ↔ ((s.field = 1 ∧ b = 1) ∨ ((s.field = 11 ∨ s.field = 13) ∧ b = 0))) → impl_Scan_verdict.j1 (k + 3) b x s.field s.left s.run s.level s.crc s.acc s.ext s.id s.rtr s.dlc s.data = some (if (s.field = 1 ∧ b = 1) ∨ ((s.field = 11 ∨ s.field = 13) ∧ b = 0) then 4 else if s.field = 13 ∧ s.acc ≠ s.crc then 5 else if s.field ≠ 14 then 0 else if b = 0 ∧ 1 < s.left then 4 else if b = 0 then 6 else if s.left = 2 then 1 else if s.left = 1 then 2 else 0):=by
  intro k x hx
  simp only [impl_Scan_verdict.j1]
  by_cases c : x = true
  ·rw [if_pos c,if_pos (hx.1 c)]
  ·rw [if_neg c,if_neg (fun h => c (hx.2 h))]
   have:=j2 k
   by_cases c13 : s.field = 13
   ·rw [if_pos c13];rw [decide_eq_true c13,Bool.true_and] at this;exact this
   ·rw [if_neg c13];rw [decide_eq_false c13,Bool.false_and] at this;exact this
 have j0 : ∀ k x,(x = true ↔ (s.field = 1 ∧ b = 1)) → impl_Scan_verdict.j0 (k + 4) b x s.field s.left s.run s.level s.crc s.acc s.ext s.id s.rtr s.dlc s.data = some (if (s.field = 1 ∧ b = 1) ∨ ((s.field = 11 ∨ s.field = 13) ∧ b = 0) then 4 else if s.field = 13 ∧ s.acc ≠ s.crc then 5 else if s.field ≠ 14 then 0 else if b = 0 ∧ 1 < s.left then 4 else if b = 0 then 6 else if s.left = 2 then 1 else if s.left = 1 then 2 else 0):=by
  intro k x hx
  simp only [impl_Scan_verdict.j0]
  by_cases c : x = true
  ·rw [if_pos c];exact j1 k x ⟨fun h => .inl (hx.1 h),fun _ => c⟩
  ·rw [if_neg c]
   by_cases c11 : s.field = 11
   ·rw [if_pos c11];exact j1 k _ ⟨fun h => .inr ⟨.inl c11,by simpa using h⟩,fun h => by rcases h with h | h;omega;simpa using h.2⟩
   rw [if_neg c11]
   by_cases c13 : s.field = 13
   ·rw [if_pos c13];exact j1 k _ ⟨fun h => .inr ⟨.inr c13,by simpa using h⟩,fun h => by rcases h with h | h;omega;simpa using h.2⟩
   rw [if_neg c13]
   exact j1 k false ⟨fun h => (by cases h),fun h => by rcases h with h | h;exact absurd (hx.2 h) c;omega⟩
 by_cases c1 : s.field = 1
 ·rw [if_pos c1];exact j0 6 _ ⟨fun h => ⟨c1,by simpa using h⟩,fun h => by simpa using h.2⟩
 ·rw [if_neg c1];exact j0 6 false ⟨fun h => (by cases h),fun h => absurd h.1 c1⟩
def runS (s : SS) (b : Int) : SS:=if s.field > 10 then { s with run:=0,level:=0 } else if 0 < s.run ∧ s.level = b then { s with run:=s.run + 1 } else { s with run:=1,level:=b }
def crcT (s : SS) (b : Int) : SS:=if s.field ≤ 9 then { s with crc:=crcI s.crc b } else s
def enterS (s : SS) (f : Int) : SS:=if f = 9 then { s with field:=f,left:=sizeF { s with field:=f },data := [] } else { s with field:=f,left:=sizeF { s with field:=f } }
def stepS (s : SS) : SS:=if s.left - 1 = 0 then enterS s (afterF s) else { s with left:=s.left - 1 }
def scanV (s : SS) (b : Int) : SS × Int :=
 if Sound s ∧ (b = 0 ∨ b = 1) then
  (if s.run = 5 then (if b = s.level then (zeroS,3) else ({ s with run:=1,level:=b },0))
   else if verdictV s b = 0 ∨ verdictV s b = 1 then (stepS (takeS (crcT (runS s b) b) b),verdictV s b) else (zeroS,verdictV s b))
 else (zeroS,8)
end Go.Proofs.YtdoclpgciadjaaaDoor.P

namespace Go.Proofs.YtdoclpgciadjaaaDoor.P
open Go Go.RowKit Go.Proofs.YtdoclpgciadjaaaDoorW.PrintWords
set_option linter.unusedVariables false
theorem tch_setCells (W : World) (g : Nat) : ∀ (vs : List Value) (o : Nat),Tch W (W.setCells g o vs) (fun k => k = g):=by
 intro vs
 induction vs generalizing W with
 | nil => intro o;exact Tch.refl _ _
 | cons v vs ih => intro o;exact ((Tch.refl1 W g).one o v).trans (ih (W.setCell ⟨g,o,none⟩ v) (o + 1))
theorem setCells_obj {g : Nat} {T : TypeId} : ∀ (vs : List Value) (o : Nat) (W : World) (cs : Array Value),W.heap[g]? = some (.cells cs T (0,0)) → o + vs.length ≤ cs.size →
  (W.setCells g o vs).heap[g]? = some (.cells (cs.toList.take o ++ vs ++ cs.toList.drop (o + vs.length)).toArray T (0,0)):=by
 intro vs
 induction vs with
 | nil =>
  intro o W cs h ho
  show W.heap[g]? = _
  rw [h,List.append_nil,List.length_nil,Nat.add_zero,List.take_append_drop]
 | cons v vs ih =>
  intro o W cs h ho
  rw [List.length_cons] at ho
  show ((W.setCell ⟨g,o,none⟩ v).setCells g (o + 1) vs).heap[g]? = _
  rw [ih (o + 1) _ _ (blk_set h o v) (by rw [Array.size_setIfInBounds];omega)]
  congr 3
  apply List.ext_getElem?
  intro i
  have hl : cs.toList.length = cs.size:=Array.length_toList
  simp only [Array.toList_setIfInBounds,List.getElem?_append,List.length_append,List.length_take,List.length_set,hl,List.length_cons,List.getElem?_take,List.getElem?_drop,List.getElem?_set,List.getElem?_cons]
  by_cases c1 : i < o
  ·rw [if_pos (by omega),if_pos (by omega),if_pos (by omega),if_neg (by omega),if_pos (by omega),if_pos (by omega),if_pos (by omega)]
  ·by_cases c2 : i = o
   ·subst c2
    rw [if_pos (by omega),if_pos (by omega),if_pos (by omega),if_pos rfl,if_pos (by omega),if_pos (by omega),if_neg (by omega),if_pos (by omega)]
   ·by_cases c3 : i < o + 1 + vs.length
    ·rw [if_pos (by omega),if_neg (by omega),if_pos (by omega),if_neg (by omega),if_neg (by omega)]
     congr 1;omega
    ·rw [if_neg (by omega),if_neg (by omega),if_neg (by omega)]
     congr 1;omega
section
variable {P : Program} {ops : Array Oper} {rest : List Oper} {o : Oper} {a : Act} {Q : Exit → Act → World → Prop}
theorem store_box {W : World} (hgd : o.guard = none) {t : TypeId} {p : Tmp} {v : Operand} (ho : o.op = .store t (.tmp p) v) (hN : o.dst = none) {g j : Nat} {cs cs' : Array Value} {T : TypeId} {u : Value} {seg : List Value}
  (hp : a.eval (.tmp p) = .pointer (some ⟨g,j,none⟩)) (hv : a.eval v = u) (hb : W.heap[g]? = some (.cells cs T (0,0))) (hu : u.cells.toList = seg) (ht : (P.info? t).map (·.size) = some seg.length) (h1 : seg.all (·.oneCell') = true) (hj' : Nat.ble (j + seg.length) cs.size = true)
  (hcs : (cs.toList.take j ++ seg ++ cs.toList.drop (j + seg.length)).toArray = cs') (h : ∀ w',w'.heap[g]? = some (.cells cs' T (0,0)) → Tch W w' (fun k => k = g) → wpList P ops Q rest a w') : wpList P ops Q (o :: rest) a W:=by
 have hj : j + seg.length ≤ cs.size:=Nat.le_of_ble_eq_true hj'
 have hrun:=run_store_run (P:=P) (o:=j) t u seg hb hu ht hj (List.all_eq_true.1 h1)
 refine wpList_plain hgd fun K hK => ?_
 unfold Oper.wp execOp
 simp only [ho,hp,hv,Sem.run_bind,Sem.run_pure,Result.andThen_ok,hrun]
 show K (a.put o.dst undef) _
 rw [hN]
 refine hK a _ (h _ ?_ (tch_setCells _ _ _ _))
 rw [setCells_obj seg j W cs hb hj,hcs]
theorem load_box {W : World} (hgd : o.guard = none) {t : TypeId} {p : Tmp} (ho : o.op = .load t (.tmp p)) {g j : Nat} {cs : Array Value} {T : TypeId} {seg : Array Value} {fs : Array Field}
  (hp : a.eval (.tmp p) = .pointer (some ⟨g,j,none⟩)) (hb : W.heap[g]? = some (.cells cs T (0,0))) (hu : P.underlying t = some (.struct fs)) (ht : (P.info? t).map (·.size) = some seg.size) (hs : (cs.toList.drop j).take seg.size = seg.toList)
  (h : wpList P ops Q rest (a.put o.dst (.agg seg)) W) : wpList P ops Q (o :: rest) a W:=by
 refine wpList_load_mid hgd t (.tmp p) ho g j hp seg.toList (.struct fs) (fun i v hi => ?_) hu rfl (by rw [Array.length_toList];exact ht) ?_
 ·rw [blk_cell hb, ← hs] at *
  rw [List.getElem?_take,List.getElem?_drop] at hi
  split at hi
  ·rw [Array.getElem?_toList] at hi;exact hi
  ·cases hi
 ·rw [Array.toArray_toList];exact h
end
theorem Tch.blk {w w' : World} {S : Nat → Prop} {k : Nat} {o : Obj} (h : Tch w w' S) (hk : w.heap[k]? = some o) (hn : ¬ S k) : w'.heap[k]? = some o:=blk_kept hk h.kept hn
section
variable {α : Type} {d : Kd α} {e base g T : Nat} {w w' : World} {ok : Nat → Prop} {v : Value} {xs : List α} {cells : Array Value}
theorem R_tch (h : d.R e w base ok v xs) (hb : w.heap[g]? = some (.cells cells T (0,0))) (ht : ∀ q,q ∈ e :: d.E → q ≠ T) (hT : Tch w w' (fun k => k = g)) : d.R e w' base ok v xs :=
 Kd.R_mono (Kd.R_kept (Kd.R_types h hb ht) hT.kept (fun _ hk => hk.2)) (fun _ hk => hk.1)
end
theorem load_all {P : Program} {ops : Array Oper} {rest : List Oper} {o : Oper} {a : Act} {Q : Exit → Act → World → Prop} {W : World} (hgd : o.guard = none) {t : TypeId} {p : Tmp} (ho : o.op = .load t (.tmp p)) {g : Nat} {C : List Value} {T : TypeId} {fs : Array Field}
  (hp : a.eval (.tmp p) = .pointer (some ⟨g,0,none⟩)) (hb : W.heap[g]? = some (.cells ⟨C⟩ T (0,0))) (hu : P.underlying t = some (.struct fs)) (ht : (P.info? t).map (·.size) = some C.length)
  (h : wpList P ops Q rest (a.put o.dst (.agg ⟨C⟩)) W) : wpList P ops Q (o :: rest) a W :=
 load_box hgd ho (g:=g) (j:=0) (seg:=⟨C⟩) hp hb hu ht (by show (C.drop 0).take C.length = C;rw [List.drop_zero,List.take_length]) h
theorem range_all {W : World} {g : Nat} {C : List Value} {T : TypeId} (hb : W.heap[g]? = some (.cells ⟨C⟩ T (0,0))) : W.rangeAt g 0 C:=fun i v hi => by
 rw [blk_cell hb,Nat.zero_add, ← Array.getElem?_toList];exact hi
theorem store_all {P : Program} {ops : Array Oper} {rest : List Oper} {o : Oper} {a : Act} {Q : Exit → Act → World → Prop} {W : World} (hgd : o.guard = none) {t : TypeId} {p : Tmp} {v : Operand} (ho : o.op = .store t (.tmp p) v) (hN : o.dst = none) {g : Nat} {cs : Array Value} {C : List Value} {T : TypeId}
  (hp : a.eval (.tmp p) = .pointer (some ⟨g,0,none⟩)) (hv : a.eval v = .agg ⟨C⟩) (hb : W.heap[g]? = some (.cells cs T (0,0))) (ht : (P.info? t).map (·.size) = some C.length) (h1 : ∀ u ∈ C,u.oneCell' = true) (hs : cs.size = C.length)
  (h : ∀ w',w'.heap[g]? = some (.cells ⟨C⟩ T (0,0)) → Tch W w' (fun k => k = g) → wpList P ops Q rest a w') : wpList P ops Q (o :: rest) a W :=
 store_box hgd ho hN (g:=g) (j:=0) (cs:=cs) (seg:=C) hp hv hb rfl ht (List.all_eq_true.2 h1) (by rw [Nat.zero_add, ← hs];exact Nat.ble_self_eq_true _) (by
  have hl : cs.toList.length = cs.size:=Array.length_toList
  rw [List.take_zero,List.nil_append,Nat.zero_add,List.drop_of_length_le (by omega),List.append_nil]) h
end Go.Proofs.YtdoclpgciadjaaaDoor.P

namespace Go.Proofs.YtdoclpgciadjaaaDoor.P
open Go.RowKit Go.Proofs.YtdoclpgciadjaaaDoorW.PrintWords Go.Proofs.YtdoclpgciadjaaaDoorW.PrintLast Go.Proofs.YtdoclpgciadjaaaDoorW.PrintMore
set_option linter.unusedVariables false
set_option linter.unusedSimpArgs false
def impl_copyFrame.f (a0_0 : Bool) (a0_1 : Int) (a0_2 : Bool) (a0_3 : Int) (l0_4 : List Int) : Option (Bool × Int × Bool × Int × List Int):=(some (([] : List Int) : List Int)).bind fun y153 => (if y153.length + l0_4.length < 140737488355328 then (some (a0_0,a0_1,a0_2,a0_3,(y153 ++ l0_4))) else (none))
set_option maxHeartbeats 8000000 in
set_option maxRecDepth 100000 in
theorem impl_copyFrame.calls (a0_0 : Bool) (a0_1 : Int) (a0_2 : Bool) (a0_3 : Int) (A0_4 : Option Addr) (c0_4 : Nat) (l0_4 : List Int) (r1 : Bool) (r2 : Int) (r3 : Bool) (r4 : Int) (r5 : List Int) (w : World) (hr0_4 : Kd.C (Kd.int .u8) w A0_4 l0_4.length l0_4) (hc0_4 : l0_4.length ≤ c0_4) (h : impl_copyFrame.f a0_0 a0_1 a0_2 a0_3 l0_4 = some (r1,r2,r3,r4,r5)) :
  Calls Tryd.prog 28 #[.agg #[.bool a0_0, .int .u32 a0_1, .bool a0_2, .int .i64 a0_3, .slice A0_4 l0_4.length c0_4]] w fun e w' => ∃ v4_ : Value,e = .returned (.agg #[.bool r1, .int .u32 r2, .bool r3, .int .i64 r4,v4_]) ∧ Kd.R (Kd.int .u8) 5 w' w.heap.size (fun _ => True) v4_ r5 ∧ Below w.heap.size w w':=by
 have hu29:=Tryd.underlying29
 have HR0_4:=Aside0.mk hr0_4
 have HC0_4:=Aside0.mk hc0_4
 clear hr0_4 hc0_4
 have HB:=Aside0.mk (Below.refl w.heap.size w)
 have H : ((some (([] : List Int) : List Int)).bind fun y153 => (if y153.length + l0_4.length < 140737488355328 then (some (a0_0,a0_1,a0_2,a0_3,(y153 ++ l0_4))) else (none))) = some (r1,r2,r3,r4,r5):=h
 clear h
 obtain ⟨y153,hy153⟩ : ∃ y_ : List Int,y_ = (([] : List Int)):=⟨_,rfl⟩
 replace H : (if y153.length + l0_4.length < 140737488355328 then (some (a0_0,a0_1,a0_2,a0_3,(y153 ++ l0_4))) else (none)) = some (r1,r2,r3,r4,r5):=by first | (rw [hy153];with_reducible exact H) | (have H2_:=(Option.bind_some _ _).symm.trans H;rw [hy153];with_reducible exact H2_) | (have H2_:=(Option.bind_some _ _).symm.trans H;with_reducible exact H2_) | with_reducible exact H | (rw [hy153];exact H) | exact H
 have Ny153:=Aside0.mk hy153
 clear hy153
 by_cases c2 : y153.length + l0_4.length < 140737488355328
 ·rw [if_pos c2] at H
  have LMc2:=Aside0.mk c2
  clear c2
  obtain ⟨y156,hy156⟩ : ∃ y_ : List Int,y_ = (y153 ++ l0_4):=⟨_,rfl⟩
  replace H : (some (a0_0,a0_1,a0_2,a0_3,y156)) = some (r1,r2,r3,r4,r5):=by first | (rw [hy156];with_reducible exact H) | (have H2_:=(Option.bind_some _ _).symm.trans H;rw [hy156];with_reducible exact H2_) | (have H2_:=(Option.bind_some _ _).symm.trans H;with_reducible exact H2_) | with_reducible exact H | (rw [hy156];exact H) | exact H
  have Ny156:=Aside0.mk hy156
  clear hy156
  simp only [Option.some.injEq,Prod.mk.injEq] at H
  obtain ⟨rfl,rfl,rfl,rfl,rfl⟩:=H
  go_enter Tryd.func28,Tryd.ntmps28
  go_wp2_with (first | ((with_reducible refine gate_dst (N:=1) rfl ?_);refine box_event ?hg (N:=1) ?hd (cs := #[.bool a0_0, .int .u32 a0_1, .bool a0_2, .int .i64 a0_3, .slice A0_4 l0_4.length c0_4]) (t:=29) ?hr ?_;(case hd => rfl);(case hg => rfl);(case hr => first | (go_simp;done) | (go_simp;rfl));intro gb151 hg w3 hbox hb;have n0_:=Aside0.mk (below_step (by repeat (first | (with_reducible first | exact HB.out | apply below_alloc | apply pw_below_drewN | apply below_drew1) | exact HB.out)) hb);have n1_:=Aside0.mk (hbox);have n2_:=Aside0.mk ((by rw [hg];exact (below_size (by repeat (first | (with_reducible first | exact HB.out | apply below_alloc | apply pw_below_drewN | apply below_drew1) | exact HB.out))) : w.heap.size ≤ gb151));have n3_:=Aside0.mk ((by rw [hg];exact (below_size (by repeat (first | (with_reducible first | exact HB.out | apply below_alloc | apply pw_below_drewN | apply below_drew1) | exact HB.out))) : w.heap.size ≤ gb151));clear HB;have HB:=n0_;have BK151:=n1_;have GW151:=n2_;have GE151:=n3_;clear n0_ n1_ n2_ n3_;clear hb hbox hg) | ((with_reducible refine gate_dst (N:=2) rfl ?_);refine box_event ?hg (N:=2) ?hd (cs := #[.bool false, .int .u32 0, .bool false, .int .i64 0, .slice none 0 0]) (t:=29) ?hr ?_;(case hd => rfl);(case hg => rfl);(case hr => first | (go_simp;done) | (go_simp;rfl));intro gb152 hg w4 hbox hb;have n0_:=Aside0.mk (blk_below (g:=gb151) (o := .cells #[.bool a0_0, .int .u32 a0_1, .bool a0_2, .int .i64 a0_3, .slice A0_4 l0_4.length c0_4] 29 (0,0)) (by (with_reducible repeat (first | refine blk_drewN ?_ _ | refine blk_drew ?_ | refine blk_alloc ?_ _));exact BK151.out) hb);have n1_:=Aside0.mk (below_step (by repeat (first | (with_reducible first | exact HB.out | apply below_alloc | apply pw_below_drewN | apply below_drew1 | refine below_set ?_ GE151.out) | exact HB.out)) hb);have n2_:=Aside0.mk (hbox);have n3_:=Aside0.mk ((by rw [hg];exact (below_size (by repeat (first | (with_reducible first | exact HB.out | apply below_alloc | apply pw_below_drewN | apply below_drew1 | refine below_set ?_ GE151.out) | exact HB.out))) : w.heap.size ≤ gb152));have n4_:=Aside0.mk ((by rw [hg];exact (below_size (by repeat (first | (with_reducible first | exact HB.out | apply below_alloc | apply pw_below_drewN | apply below_drew1 | refine below_set ?_ GE151.out) | exact HB.out))) : w.heap.size ≤ gb152));have n5_:=Aside0.mk ((by rw [hg];exact Nat.ne_of_lt (blk_lt (g:=gb151) (o := .cells #[.bool a0_0, .int .u32 a0_1, .bool a0_2, .int .i64 a0_3, .slice A0_4 l0_4.length c0_4] 29 (0,0)) (by (with_reducible repeat (first | refine blk_drewN ?_ _ | refine blk_drew ?_ | refine blk_alloc ?_ _));exact BK151.out)) : gb151 ≠ gb152));have n6_:=Aside0.mk ((by rw [hg];exact Nat.ne_of_gt (blk_lt (g:=gb151) (o := .cells #[.bool a0_0, .int .u32 a0_1, .bool a0_2, .int .i64 a0_3, .slice A0_4 l0_4.length c0_4] 29 (0,0)) (by (with_reducible repeat (first | refine blk_drewN ?_ _ | refine blk_drew ?_ | refine blk_alloc ?_ _));exact BK151.out)) : gb152 ≠ gb151));clear BK151;clear HB;have BK151:=n0_;have HB:=n1_;have BK152:=n2_;have GW152:=n3_;have GE152:=n4_;have NB151_152:=n5_;have NB152_151:=n6_;clear n0_ n1_ n2_ n3_ n4_ n5_ n6_;clear hb hbox hg) | ((with_reducible refine gate_dst (N:=3) rfl ?_);refine Kd.R_lit (Kd.int .u8) _ 5 ?hg (N:=3) ?hd (xs:=([] : List Int)) (inner := []) (ok:=fun _ => True) (okp:=fun _ => True) ?hr ?hp (fun _ hk => hk) trivial (Below.refl _ _) (Nat.le_refl _) (by simp) ?_;(case hd => rfl);(case hg => rfl);(case hr => first | (go_simp;done) | (go_simp;rfl));(case hp => exact (Reps.none _ _));intro v154 w5 ho6 hb hg_ hnew_;clear hg_ hnew_;(first | rw [← Ny153.out] at ho6 | (simp only [Int.reduceToNat] at ho6;rw [← Ny153.out] at ho6));have n0_:=Aside0.mk (Kd.R_lower ho6 (below_size (by repeat (first | (with_reducible first | exact HB.out | apply below_alloc | apply pw_below_drewN | apply below_drew1 | refine below_set ?_ GE151.out | refine below_set ?_ GE152.out) | exact HB.out))));have n1_:=Aside0.mk (blk_below (g:=gb151) (o := .cells #[.bool a0_0, .int .u32 a0_1, .bool a0_2, .int .i64 a0_3, .slice A0_4 l0_4.length c0_4] 29 (0,0)) (by (with_reducible repeat (first | refine blk_drewN ?_ _ | refine blk_drew ?_ | refine blk_alloc ?_ _));exact BK151.out) hb);have n2_:=Aside0.mk (blk_below (g:=gb152) (o := .cells #[.bool false, .int .u32 0, .bool false, .int .i64 0, .slice none 0 0] 29 (0,0)) (by (with_reducible repeat (first | refine blk_drewN ?_ _ | refine blk_drew ?_ | refine blk_alloc ?_ _));exact BK152.out) hb);have n3_:=Aside0.mk (below_step (by repeat (first | (with_reducible first | exact HB.out | apply below_alloc | apply pw_below_drewN | apply below_drew1 | refine below_set ?_ GE151.out | refine below_set ?_ GE152.out) | exact HB.out)) hb);clear BK151;clear BK152;clear HB;have HO155:=n0_;have BK151:=n1_;have BK152:=n2_;have HB:=n3_;clear n0_ n1_ n2_ n3_;clear hb ho6;have hnb7:=NB151_152.out;have hnc7:=NB152_151.out;obtain ⟨hcz8_0,hcz8_1,hcz8_2,hcz8_3,hcz8_4⟩:=bc5 BK151.out;obtain ⟨hfz8_0,hfz8_1,hfz8_2,hfz8_3,hfz8_4⟩:=bf5 BK151.out) | ((with_reducible refine gate_builtin (b := .append) (xs := #[.tmp 3, .tmp 5]) rfl ?_);at_builtin;refine Kd.R_append_rows (Kd.int .u8) (w0:=w) w.heap.size rfl (.tmp 3) (.tmp 5) 23 5 (.int .u8 0) 1 rfl Tryd.underlying23 info5 rfl (by decide) (by omega) v154 y153 l0_4 _ _ _ (fun _ => True) (fun _ => False) rfl rfl ?aO ?aR (fun _ _ h => h) (fun _ h => h.elim) ?aF ?aB ?aS ?aL ?_;(case aR => repeat (first | exact (Kd.C_below HR0_4.out HB.out) | (with_reducible refine Kd.C_alloc ?_ _) | (with_reducible refine Kd.C_drewN ?_ _) | (with_reducible refine Kd.C_drew ?_)));(case aB => exact (by repeat (first | (with_reducible first | exact HB.out | apply below_alloc | apply pw_below_drewN | apply below_drew1 | refine below_set ?_ GE151.out | refine below_set ?_ GE152.out) | exact HB.out)));(case aF => exact (fun _ _ => trivial));(case aO => exact (by (with_reducible repeat (first | apply Kd.R_alloc | apply Kd.R_drewN | apply Kd.R_drew));exact HO155.out));(case aS => exact (below_size (by repeat (first | (with_reducible first | exact HB.out | apply below_alloc | apply pw_below_drewN | apply below_drew1 | refine below_set ?_ GE151.out | refine below_set ?_ GE152.out) | exact HB.out))));(case aL => have:=LMc2.out;omega);intro v157 w9 ho hb hg hat;rw [← Ny156.out] at ho;have n0_:=Aside0.mk (blk_grown (g:=gb151) (o := .cells #[.bool a0_0, .int .u32 a0_1, .bool a0_2, .int .i64 a0_3, .slice A0_4 l0_4.length c0_4] 29 (0,0)) (by (with_reducible repeat (first | refine blk_drewN ?_ _ | refine blk_drew ?_ | refine blk_alloc ?_ _));exact BK151.out) hg (Kd.R_ne HO155.out BK151.out (by decide)));have n1_:=Aside0.mk (blk_grown (g:=gb152) (o := .cells #[.bool false, .int .u32 0, .bool false, .int .i64 0, .slice none 0 0] 29 (0,0)) (by (with_reducible repeat (first | refine blk_drewN ?_ _ | refine blk_drew ?_ | refine blk_alloc ?_ _));exact BK152.out) hg (Kd.R_ne HO155.out BK152.out (by decide)));have n2_:=Aside0.mk (hb);have n3_:=Aside0.mk (ho);clear BK151;clear BK152;clear HB;clear HO155;have BK151:=n0_;have BK152:=n1_;have HB:=n2_;have HO158:=n3_;clear n0_ n1_ n2_ n3_;clear ho hb hg hat;obtain ⟨Ao10,co10,eo10⟩:=Kd.R_slice HO158.out;subst eo10;obtain ⟨hcz11_0,hcz11_1,hcz11_2,hcz11_3,hcz11_4⟩:=bc5 BK151.out;obtain ⟨hfz11_0,hfz11_1,hfz11_2,hfz11_3,hfz11_4⟩:=bf5 BK151.out;obtain ⟨hcz12_0,hcz12_1,hcz12_2,hcz12_3,hcz12_4⟩:=bc5 BK152.out;obtain ⟨hfz12_0,hfz12_1,hfz12_2,hfz12_3,hfz12_4⟩:=bf5 BK152.out))
  refine bodyPost_ret (results_cell_row rfl _ _ gb152 29 #[.bool a0_0, .int .u32 a0_1, .bool a0_2, .int .i64 a0_3, .slice Ao10 y156.length co10] (0,0) _ rfl (by (with_reducible repeat (first | refine blk_drewN ?_ _ | refine blk_drew ?_ | refine blk_alloc ?_ _));refine blk_put (cs := #[.bool a0_0, .int .u32 a0_1, .bool a0_2, .int .i64 a0_3, .slice none 0 0]) ?_ 4 _ rfl;(with_reducible repeat (first | refine blk_drewN ?_ _ | refine blk_drew ?_ | refine blk_alloc ?_ _));refine blk_put (cs := #[.bool a0_0, .int .u32 a0_1, .bool a0_2, .int .i64 0, .slice none 0 0]) ?_ 3 _ rfl;(with_reducible repeat (first | refine blk_drewN ?_ _ | refine blk_drew ?_ | refine blk_alloc ?_ _));refine blk_put (cs := #[.bool a0_0, .int .u32 a0_1, .bool false, .int .i64 0, .slice none 0 0]) ?_ 2 _ rfl;(with_reducible repeat (first | refine blk_drewN ?_ _ | refine blk_drew ?_ | refine blk_alloc ?_ _));refine blk_put (cs := #[.bool a0_0, .int .u32 0, .bool false, .int .i64 0, .slice none 0 0]) ?_ 1 _ rfl;(with_reducible repeat (first | refine blk_drewN ?_ _ | refine blk_drew ?_ | refine blk_alloc ?_ _));refine blk_put (cs := #[.bool false, .int .u32 0, .bool false, .int .i64 0, .slice none 0 0]) ?_ 0 _ rfl;(with_reducible repeat (first | refine blk_drewN ?_ _ | refine blk_drew ?_ | refine blk_alloc ?_ _));refine blk_far ?_ NB152_151.out _;(with_reducible repeat (first | refine blk_drewN ?_ _ | refine blk_drew ?_ | refine blk_alloc ?_ _));exact BK152.out) Tryd.underlying29 rfl (by kernel_rfl)) rfl ?_
  exact ⟨_,by first | rfl | (simp [errW_none,errW_some] <;> rfl) | (simp [*,errW_none,errW_some] <;> rfl),by (with_reducible repeat (first | apply Kd.R_alloc | apply Kd.R_drewN | apply Kd.R_drew));exact Kd.R_mono (Kd.R_far (p:=⟨gb152,4,none⟩) (Kd.R_far (p:=⟨gb152,3,none⟩) (Kd.R_far (p:=⟨gb152,2,none⟩) (Kd.R_far (p:=⟨gb152,1,none⟩) (Kd.R_far (p:=⟨gb152,0,none⟩) (Kd.R_far (p:=⟨gb151,4,none⟩) (Kd.R_types (Kd.R_types HO158.out BK151.out (by decide)) BK152.out (by decide)) (fun _ hk => hk.1.2) (.slice Ao10 y156.length co10)) (fun _ hk => hk.2) (.bool a0_0)) (fun _ hk => hk.2) (.int .u32 a0_1)) (fun _ hk => hk.2) (.bool a0_2)) (fun _ hk => hk.2) (.int .i64 a0_3)) (fun _ hk => hk.2) (.slice Ao10 y156.length co10)) (fun _ hk => trivial),by repeat (first | (with_reducible first | exact HB.out | apply below_alloc | apply pw_below_drewN | apply below_drew1 | refine below_set ?_ GE151.out | refine below_set ?_ GE152.out) | exact HB.out)⟩
 ·rw [if_neg c2] at H
  exact absurd H (by simp)
end Go.Proofs.YtdoclpgciadjaaaDoor.P
