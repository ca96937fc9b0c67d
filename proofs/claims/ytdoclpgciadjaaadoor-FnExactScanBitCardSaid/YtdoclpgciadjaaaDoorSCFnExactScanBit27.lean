/- Texts of the proof of CFnExactScanBit, joined. -/
import Derived.Test.YtdoclpgciadjaaaDoorSCFnExactScanBit21
import Derived.Test.YtdoclpgciadjaaaDoorSCFnExactScanBit26
namespace Go.Proofs.YtdoclpgciadjaaaDoor.P
open Go.RowKit Go.Proofs.YtdoclpgciadjaaaDoorW.PrintWords Go.Proofs.YtdoclpgciadjaaaDoorW.PrintLast Go.Proofs.YtdoclpgciadjaaaDoorW.PrintMore
set_option linter.unusedVariables false
set_option linter.unusedSimpArgs false
mutual
def spec_l2sound.j0 : Nat → Bool → Int → Int → Int → Int → Int → Int → Bool → Int → Bool → Int → List Int → Option (Bool)
 | 0,_,_,_,_,_,_,_,_,_,_,_,_ => none
 | k + 1,x12,x107000,x107001,x107002,x107003,x107004,x107005,x107006,x107007,x107008,x107009,x107010 => if x12 = true then (some false) else (if x107007 ≥ 536870912 then (spec_l2sound.j1 k true x107000 x107001 x107002 x107003 x107004 x107005 x107006 x107007 x107008 x107009 x107010) else (if x107009 < 0 then (spec_l2sound.j1 k true x107000 x107001 x107002 x107003 x107004 x107005 x107006 x107007 x107008 x107009 x107010) else (if x107009 > 15 then (spec_l2sound.j1 k true x107000 x107001 x107002 x107003 x107004 x107005 x107006 x107007 x107008 x107009 x107010) else (spec_l2sound.j1 k (decide ((x107010.length : Int) > 8)) x107000 x107001 x107002 x107003 x107004 x107005 x107006 x107007 x107008 x107009 x107010))))
def spec_l2sound.j1 : Nat → Bool → Int → Int → Int → Int → Int → Int → Bool → Int → Bool → Int → List Int → Option (Bool)
 | 0,_,_,_,_,_,_,_,_,_,_,_,_ => none
 | k + 1,x35,x107000,x107001,x107002,x107003,x107004,x107005,x107006,x107007,x107008,x107009,x107010 => if x35 = true then (some false) else ((spec_l2size.f x107000 x107006 x107007 x107008 x107009 x107010).bind fun t107 => (if x107001 < 1 then (spec_l2sound.j2 k t107 true x107000 x107001 x107002 x107003 x107004 x107005 x107006 x107007 x107008 x107009 x107010) else (spec_l2sound.j2 k t107 (decide (x107001 > t107)) x107000 x107001 x107002 x107003 x107004 x107005 x107006 x107007 x107008 x107009 x107010)))
def spec_l2sound.j2 : Nat → Int → Bool → Int → Int → Int → Int → Int → Int → Bool → Int → Bool → Int → List Int → Option (Bool)
 | 0,_,_,_,_,_,_,_,_,_,_,_,_,_ => none
 | k + 1,x3,x49,x107000,x107001,x107002,x107003,x107004,x107005,x107006,x107007,x107008,x107009,x107010 => if x49 = true then (some false) else (if x107002 < 0 then (spec_l2sound.j3 k x3 true x107000 x107001 x107002 x107003 x107004 x107005 x107006 x107007 x107008 x107009 x107010) else (if x107002 > 5 then (spec_l2sound.j3 k x3 true x107000 x107001 x107002 x107003 x107004 x107005 x107006 x107007 x107008 x107009 x107010) else (if x107003 < 0 then (spec_l2sound.j3 k x3 true x107000 x107001 x107002 x107003 x107004 x107005 x107006 x107007 x107008 x107009 x107010) else (if x107003 > 1 then (spec_l2sound.j3 k x3 true x107000 x107001 x107002 x107003 x107004 x107005 x107006 x107007 x107008 x107009 x107010) else (if x107002 = 0 then (spec_l2sound.j3 k x3 (x107003 == 1) x107000 x107001 x107002 x107003 x107004 x107005 x107006 x107007 x107008 x107009 x107010) else (spec_l2sound.j3 k x3 false x107000 x107001 x107002 x107003 x107004 x107005 x107006 x107007 x107008 x107009 x107010))))))
def spec_l2sound.j3 : Nat → Int → Bool → Int → Int → Int → Int → Int → Int → Bool → Int → Bool → Int → List Int → Option (Bool)
 | 0,_,_,_,_,_,_,_,_,_,_,_,_,_ => none
 | k + 1,x3,x77,x107000,x107001,x107002,x107003,x107004,x107005,x107006,x107007,x107008,x107009,x107010 => if x77 = true then (some false) else (if x107000 = 1 then (spec_l2sound.j4 k x3 true x107000 x107001 x107002 x107003 x107004 x107005 x107006 x107007 x107008 x107009 x107010) else (spec_l2sound.j4 k x3 (decide (x107000 > 11)) x107000 x107001 x107002 x107003 x107004 x107005 x107006 x107007 x107008 x107009 x107010))
def spec_l2sound.j4 : Nat → Int → Bool → Int → Int → Int → Int → Int → Int → Bool → Int → Bool → Int → List Int → Option (Bool)
 | 0,_,_,_,_,_,_,_,_,_,_,_,_,_ => none
 | k + 1,x3,x4,x107000,x107001,x107002,x107003,x107004,x107005,x107006,x107007,x107008,x107009,x107010 => if (x4 != (x107002 == 0)) = true then (some false) else (if x107004 < 0 then (spec_l2sound.j5 k x3 true x107000 x107001 x107002 x107003 x107004 x107005 x107006 x107007 x107008 x107009 x107010) else (if x107004 > 32767 then (spec_l2sound.j5 k x3 true x107000 x107001 x107002 x107003 x107004 x107005 x107006 x107007 x107008 x107009 x107010) else (if x107005 < 0 then (spec_l2sound.j5 k x3 true x107000 x107001 x107002 x107003 x107004 x107005 x107006 x107007 x107008 x107009 x107010) else (spec_l2sound.j5 k x3 (decide (x107005 > 32767)) x107000 x107001 x107002 x107003 x107004 x107005 x107006 x107007 x107008 x107009 x107010))))
def spec_l2sound.j5 : Nat → Int → Bool → Int → Int → Int → Int → Int → Int → Bool → Int → Bool → Int → List Int → Option (Bool)
 | 0,_,_,_,_,_,_,_,_,_,_,_,_,_ => none
 | k + 1,x3,x108,x107000,x107001,x107002,x107003,x107004,x107005,x107006,x107007,x107008,x107009,x107010 => if x108 = true then (some false) else (if x107000 = 9 then (if x107008 = true then (some false) else (if x107009 = 0 then (some false) else (if (x107010.length : Int) = (wrap64 (Int.tdiv (wrap64 ((wrap64 (x3 - x107001)) + 7)) 8)) then (some true) else (some false)))) else (some true))
end
def spec_l2sound.f (k : Nat) (a0_0 : Int) (a0_1 : Int) (a0_2 : Int) (a0_3 : Int) (a0_4 : Int) (a0_5 : Int) (a0_6 : Bool) (a0_7 : Int) (a0_8 : Bool) (a0_9 : Int) (l0_10 : List Int) : Option (Bool):=if a0_0 < 1 then (spec_l2sound.j0 k true a0_0 a0_1 a0_2 a0_3 a0_4 a0_5 a0_6 a0_7 a0_8 a0_9 l0_10) else (spec_l2sound.j0 k (decide (a0_0 > 14)) a0_0 a0_1 a0_2 a0_3 a0_4 a0_5 a0_6 a0_7 a0_8 a0_9 l0_10)
set_option maxHeartbeats 8000000 in
set_option maxRecDepth 100000 in
theorem spec_l2sound.calls (k : Nat) (a0_0 : Int) (a0_1 : Int) (a0_2 : Int) (a0_3 : Int) (a0_4 : Int) (a0_5 : Int) (a0_6 : Bool) (a0_7 : Int) (a0_8 : Bool) (a0_9 : Int) (A0_10 : Option Addr) (c0_10 : Nat) (l0_10 : List Int) (r : Bool) (w : World) (hr0_10 : Kd.C (Kd.int .u8) w A0_10 l0_10.length l0_10) (hc0_10 : l0_10.length ≤ c0_10) (h : spec_l2sound.f k a0_0 a0_1 a0_2 a0_3 a0_4 a0_5 a0_6 a0_7 a0_8 a0_9 l0_10 = some r) :
  Calls Tryd.prog 19 #[.agg #[.int .i64 a0_0, .int .i64 a0_1, .int .i64 a0_2, .int .i64 a0_3, .int .i64 a0_4, .int .i64 a0_5, .bool a0_6, .int .u32 a0_7, .bool a0_8, .int .i64 a0_9, .slice A0_10 l0_10.length c0_10]] w fun e w' => e = .returned (.bool r) ∧ Below w.heap.size w w':=by
 have hu31:=Tryd.underlying31
 have hu29:=Tryd.underlying29
 have HR0_10:=Aside0.mk hr0_10
 have HC0_10:=Aside0.mk hc0_10
 clear hr0_10 hc0_10
 have HB:=Aside0.mk (Below.refl w.heap.size w)
 have H : (if a0_0 < 1 then (spec_l2sound.j0 k true a0_0 a0_1 a0_2 a0_3 a0_4 a0_5 a0_6 a0_7 a0_8 a0_9 l0_10) else (spec_l2sound.j0 k (decide (a0_0 > 14)) a0_0 a0_1 a0_2 a0_3 a0_4 a0_5 a0_6 a0_7 a0_8 a0_9 l0_10)) = some r:=h
 clear h
 have HC2:=Aside0.mk H
 clear H
 go_enter Tryd.func19,Tryd.ntmps19
 go_upto_region 1 with (first | ((with_reducible refine gate_dst (N:=1) rfl ?_);(try (refine gate_guard (by rfl) ?_;dsimp only));refine box_event ?hg (N:=1) ?hd (cs := #[.int .i64 a0_0, .int .i64 a0_1, .int .i64 a0_2, .int .i64 a0_3, .int .i64 a0_4, .int .i64 a0_5, .bool a0_6, .int .u32 a0_7, .bool a0_8, .int .i64 a0_9, .slice A0_10 l0_10.length c0_10]) (t:=31) ?hr ?_;(case hd => rfl);(case hg => rfl);(case hr => first | (go_simp;done) | (go_simp;rfl));intro gb106 hg w3 hbox hb;have n0_:=Aside0.mk (below_step (by repeat (first | (with_reducible first | exact HB.out | apply below_alloc | apply pw_below_drewN | apply below_drew1) | exact HB.out)) hb);have n1_:=Aside0.mk (hbox);have n2_:=Aside0.mk ((by rw [hg];exact (below_size (by repeat (first | (with_reducible first | exact HB.out | apply below_alloc | apply pw_below_drewN | apply below_drew1) | exact HB.out))) : w.heap.size ≤ gb106));have n3_:=Aside0.mk ((by rw [hg];exact (below_size (by repeat (first | (with_reducible first | exact HB.out | apply below_alloc | apply pw_below_drewN | apply below_drew1) | exact HB.out))) : w.heap.size ≤ gb106));clear HB;have HB:=n0_;have BK106:=n1_;have GW106:=n2_;have GE106:=n3_;clear n0_ n1_ n2_ n3_;clear hb hbox hg))
 (try simp only [Act.put,List.setIfInBounds_toArray,List.set_cons_zero,List.set_cons_succ])
 go_cut [12] (fun v12 wc => ∃ (kq : Nat) (x12_1 : Bool),v12 = .bool x12_1 ∧ Aside0 (spec_l2sound.j0 kq x12_1 a0_0 a0_1 a0_2 a0_3 a0_4 a0_5 a0_6 a0_7 a0_8 a0_9 l0_10 = some r) ∧ Aside0 (kq ≤ k) ∧ Aside0 (wc.heap[gb106]? = some (.cells #[.int .i64 a0_0, .int .i64 a0_1, .int .i64 a0_2, .int .i64 a0_3, .int .i64 a0_4, .int .i64 a0_5, .bool a0_6, .int .u32 a0_7, .bool a0_8, .int .i64 a0_9,(.slice A0_10 l0_10.length c0_10)] 31 (0,0))) ∧ Aside0 (Below w.heap.size w wc))
 case first =>
  have H:=HC2.out
  clear HC2
  by_cases c4 : a0_0 < 1
  ·rw [if_pos c4] at H
   have c4b0 : decide (a0_0 < 1) = true:=decide_eq_true c4
   clear c4
   (first | rw [c4b0] | (simp only [i64_w,i32_w];rw [c4b0]) | skip)
   have H':=Aside0.mk H
   clear H
   obtain ⟨hcz5_0,hcz5_1,hcz5_2,hcz5_3,hcz5_4,hcz5_5,hcz5_6,hcz5_7,hcz5_8,hcz5_9,hcz5_10⟩:=bc11 BK106.out
   obtain ⟨hfz5_0,hfz5_1,hfz5_2,hfz5_3,hfz5_4,hfz5_5,hfz5_6,hfz5_7,hfz5_8,hfz5_9,hfz5_10⟩:=bf11 BK106.out
   go_wp2
   go_meet
   case rel => exact ⟨_,(true),(by first | rfl | (simp;done) | (simp [*];done)),H',⟨by first | omega | exact Nat.le_refl _⟩,⟨by (with_reducible repeat (first | refine blk_drewN ?_ _ | refine blk_drew ?_ | refine blk_alloc ?_ _));exact BK106.out⟩,⟨by repeat (first | (with_reducible first | exact HB.out | apply below_alloc | apply pw_below_drewN | apply below_drew1 | refine below_set ?_ GE106.out) | exact HB.out)⟩⟩
  ·rw [if_neg c4] at H
   have c4b0 : decide (a0_0 < 1) = false:=decide_eq_false c4
   clear c4
   (first | rw [c4b0] | (simp only [i64_w,i32_w];rw [c4b0]) | skip)
   have H':=Aside0.mk H
   clear H
   obtain ⟨hcz6_0,hcz6_1,hcz6_2,hcz6_3,hcz6_4,hcz6_5,hcz6_6,hcz6_7,hcz6_8,hcz6_9,hcz6_10⟩:=bc11 BK106.out
   obtain ⟨hfz6_0,hfz6_1,hfz6_2,hfz6_3,hfz6_4,hfz6_5,hfz6_6,hfz6_7,hfz6_8,hfz6_9,hfz6_10⟩:=bf11 BK106.out
   go_wp2
   go_meet
   case rel => exact ⟨_,(decide (a0_0 > 14)),(by first | rfl | (simp;done) | (simp [*];done)),H',⟨by first | omega | exact Nat.le_refl _⟩,⟨by (with_reducible repeat (first | refine blk_drewN ?_ _ | refine blk_drew ?_ | refine blk_alloc ?_ _));exact BK106.out⟩,⟨by repeat (first | (with_reducible first | exact HB.out | apply below_alloc | apply pw_below_drewN | apply below_drew1 | refine below_set ?_ GE106.out) | exact HB.out)⟩⟩
 case rest =>
  clear HC2
  try clear c1
  try clear p2
  try clear c4
  try clear c4b0
  try clear hcz5_0
  try clear hcz5_1
  try clear hcz5_10
  try clear hcz5_2
  try clear hcz5_3
  try clear hcz5_4
  try clear hcz5_5
  try clear hcz5_6
  try clear hcz5_7
  try clear hcz5_8
  try clear hcz5_9
  try clear hcz6_0
  try clear hcz6_1
  try clear hcz6_10
  try clear hcz6_2
  try clear hcz6_3
  try clear hcz6_4
  try clear hcz6_5
  try clear hcz6_6
  try clear hcz6_7
  try clear hcz6_8
  try clear hcz6_9
  try clear hfz5_0
  try clear hfz5_1
  try clear hfz5_10
  try clear hfz5_2
  try clear hfz5_3
  try clear hfz5_4
  try clear hfz5_5
  try clear hfz5_6
  try clear hfz5_7
  try clear hfz5_8
  try clear hfz5_9
  try clear hfz6_0
  try clear hfz6_1
  try clear hfz6_10
  try clear hfz6_2
  try clear hfz6_3
  try clear hfz6_4
  try clear hfz6_5
  try clear hfz6_6
  try clear hfz6_7
  try clear hfz6_8
  try clear hfz6_9
  obtain ⟨kq,x12_1,rfl,HA,HJ1,BK106,HB⟩:=hcut
  cases kq with
  | zero => exact absurd HA.out (by simp [spec_l2sound.j0])
  | succ kj1 =>
   have H:=HA.out
   clear HA
   simp only [spec_l2sound.j0] at H
   by_cases c7 : x12_1 = true
   ·subst c7
    have H1 : (some false) = some r:=by rw [if_pos rfl] at H;exact H
    clear H
    have H:=H1
    clear H1
    obtain rfl:=Option.some.inj H
    go_wp2
    go_ret
    exact ⟨by first | rfl | (simp [errW_none,errW_some] <;> rfl) | (simp [*,errW_none,errW_some] <;> rfl),by repeat (first | (with_reducible first | exact HB.out | apply below_alloc | apply pw_below_drewN | apply below_drew1 | refine below_set ?_ GE106.out) | exact HB.out)⟩
   ·replace c7:=Bool.eq_false_iff.mpr c7
    subst c7
    have H1 : (if a0_7 ≥ 536870912 then (spec_l2sound.j1 kj1 true a0_0 a0_1 a0_2 a0_3 a0_4 a0_5 a0_6 a0_7 a0_8 a0_9 l0_10) else (if a0_9 < 0 then (spec_l2sound.j1 kj1 true a0_0 a0_1 a0_2 a0_3 a0_4 a0_5 a0_6 a0_7 a0_8 a0_9 l0_10) else (if a0_9 > 15 then (spec_l2sound.j1 kj1 true a0_0 a0_1 a0_2 a0_3 a0_4 a0_5 a0_6 a0_7 a0_8 a0_9 l0_10) else (spec_l2sound.j1 kj1 (decide ((l0_10.length : Int) > 8)) a0_0 a0_1 a0_2 a0_3 a0_4 a0_5 a0_6 a0_7 a0_8 a0_9 l0_10)))) = some r:=by rw [if_neg (show ¬ (false = true) by decide)] at H;exact H
    clear H
    have H:=H1
    clear H1
    have HC8:=Aside0.mk H
    clear H
    go_upto_region 3 with (fail)
    go_cut [35] (fun v35 wc => ∃ (kq : Nat) (x35_7 : Bool),v35 = .bool x35_7 ∧ Aside0 (spec_l2sound.j1 kq x35_7 a0_0 a0_1 a0_2 a0_3 a0_4 a0_5 a0_6 a0_7 a0_8 a0_9 l0_10 = some r) ∧ Aside0 (kq ≤ kj1) ∧ Aside0 (wc.heap[gb106]? = some (.cells #[.int .i64 a0_0, .int .i64 a0_1, .int .i64 a0_2, .int .i64 a0_3, .int .i64 a0_4, .int .i64 a0_5, .bool a0_6, .int .u32 a0_7, .bool a0_8, .int .i64 a0_9,(.slice A0_10 l0_10.length c0_10)] 31 (0,0))) ∧ Aside0 (Below w.heap.size w wc))
    case first =>
     have H:=HC8.out
     clear HC8
     by_cases c9 : a0_7 ≥ 536870912
     ·rw [if_pos c9] at H
      have c9b0 : decide (536870912 ≤ a0_7) = true:=decide_eq_true c9
      clear c9
      (first | rw [c9b0] | (simp only [i64_w,i32_w];rw [c9b0]) | skip)
      have H':=Aside0.mk H
      clear H
      obtain ⟨hcz10_0,hcz10_1,hcz10_2,hcz10_3,hcz10_4,hcz10_5,hcz10_6,hcz10_7,hcz10_8,hcz10_9,hcz10_10⟩:=bc11 BK106.out
      obtain ⟨hfz10_0,hfz10_1,hfz10_2,hfz10_3,hfz10_4,hfz10_5,hfz10_6,hfz10_7,hfz10_8,hfz10_9,hfz10_10⟩:=bf11 BK106.out
      go_wp2
      go_meet
      case rel => exact ⟨_,(true),(by first | rfl | (simp;done) | (simp [*];done)),H',⟨by have:=HJ1.out;first | omega | exact Nat.le_refl _⟩,⟨by (with_reducible repeat (first | refine blk_drewN ?_ _ | refine blk_drew ?_ | refine blk_alloc ?_ _));exact BK106.out⟩,⟨by repeat (first | (with_reducible first | exact HB.out | apply below_alloc | apply pw_below_drewN | apply below_drew1 | refine below_set ?_ GE106.out) | exact HB.out)⟩⟩
     ·rw [if_neg c9] at H
      have c9b0 : decide (536870912 ≤ a0_7) = false:=decide_eq_false c9
      clear c9
      (first | rw [c9b0] | (simp only [i64_w,i32_w];rw [c9b0]) | skip)
      by_cases c11 : a0_9 < 0
      ·rw [if_pos c11] at H
       have c11b0 : decide (a0_9 < 0) = true:=decide_eq_true c11
       clear c11
       have H':=Aside0.mk H
       clear H
       obtain ⟨hcz12_0,hcz12_1,hcz12_2,hcz12_3,hcz12_4,hcz12_5,hcz12_6,hcz12_7,hcz12_8,hcz12_9,hcz12_10⟩:=bc11 BK106.out
       obtain ⟨hfz12_0,hfz12_1,hfz12_2,hfz12_3,hfz12_4,hfz12_5,hfz12_6,hfz12_7,hfz12_8,hfz12_9,hfz12_10⟩:=bf11 BK106.out
       go_wp2
       go_meet
       case rel => exact ⟨_,(true),(by first | rfl | (simp;done) | (simp [*];done)),H',⟨by have:=HJ1.out;first | omega | exact Nat.le_refl _⟩,⟨by (with_reducible repeat (first | refine blk_drewN ?_ _ | refine blk_drew ?_ | refine blk_alloc ?_ _));exact BK106.out⟩,⟨by repeat (first | (with_reducible first | exact HB.out | apply below_alloc | apply pw_below_drewN | apply below_drew1 | refine below_set ?_ GE106.out) | exact HB.out)⟩⟩
      ·rw [if_neg c11] at H
       have c11b0 : decide (a0_9 < 0) = false:=decide_eq_false c11
       clear c11
       by_cases c13 : a0_9 > 15
       ·rw [if_pos c13] at H
        have c13b0 : decide (15 < a0_9) = true:=decide_eq_true c13
        clear c13
        have H':=Aside0.mk H
        clear H
        obtain ⟨hcz14_0,hcz14_1,hcz14_2,hcz14_3,hcz14_4,hcz14_5,hcz14_6,hcz14_7,hcz14_8,hcz14_9,hcz14_10⟩:=bc11 BK106.out
        obtain ⟨hfz14_0,hfz14_1,hfz14_2,hfz14_3,hfz14_4,hfz14_5,hfz14_6,hfz14_7,hfz14_8,hfz14_9,hfz14_10⟩:=bf11 BK106.out
        go_wp2
        go_meet
        case rel => exact ⟨_,(true),(by first | rfl | (simp;done) | (simp [*];done)),H',⟨by have:=HJ1.out;first | omega | exact Nat.le_refl _⟩,⟨by (with_reducible repeat (first | refine blk_drewN ?_ _ | refine blk_drew ?_ | refine blk_alloc ?_ _));exact BK106.out⟩,⟨by repeat (first | (with_reducible first | exact HB.out | apply below_alloc | apply pw_below_drewN | apply below_drew1 | refine below_set ?_ GE106.out) | exact HB.out)⟩⟩
       ·rw [if_neg c13] at H
        have c13b0 : decide (15 < a0_9) = false:=decide_eq_false c13
        clear c13
        have H':=Aside0.mk H
        clear H
        obtain ⟨hcz15_0,hcz15_1,hcz15_2,hcz15_3,hcz15_4,hcz15_5,hcz15_6,hcz15_7,hcz15_8,hcz15_9,hcz15_10⟩:=bc11 BK106.out
        obtain ⟨hfz15_0,hfz15_1,hfz15_2,hfz15_3,hfz15_4,hfz15_5,hfz15_6,hfz15_7,hfz15_8,hfz15_9,hfz15_10⟩:=bf11 BK106.out
        go_wp2
        go_meet
        case rel => exact ⟨_,(decide ((l0_10.length : Int) > 8)),(by first | rfl | (simp;done) | (simp [*];done)),H',⟨by have:=HJ1.out;first | omega | exact Nat.le_refl _⟩,⟨by (with_reducible repeat (first | refine blk_drewN ?_ _ | refine blk_drew ?_ | refine blk_alloc ?_ _));exact BK106.out⟩,⟨by repeat (first | (with_reducible first | exact HB.out | apply below_alloc | apply pw_below_drewN | apply below_drew1 | refine below_set ?_ GE106.out) | exact HB.out)⟩⟩
    case rest =>
     clear HC8
     try clear c1
     try clear p2
     try clear c4
     try clear c4b0
     try clear c7
     try clear c9
     try clear c9b0
     try clear c11
     try clear c11b0
     try clear c13
     try clear c13b0
     try clear hcz10_0
     try clear hcz10_1
     try clear hcz10_10
     try clear hcz10_2
     try clear hcz10_3
     try clear hcz10_4
     try clear hcz10_5
     try clear hcz10_6
     try clear hcz10_7
     try clear hcz10_8
     try clear hcz10_9
     try clear hcz12_0
     try clear hcz12_1
     try clear hcz12_10
     try clear hcz12_2
     try clear hcz12_3
     try clear hcz12_4
     try clear hcz12_5
     try clear hcz12_6
     try clear hcz12_7
     try clear hcz12_8
     try clear hcz12_9
     try clear hcz14_0
     try clear hcz14_1
     try clear hcz14_10
     try clear hcz14_2
     try clear hcz14_3
     try clear hcz14_4
     try clear hcz14_5
     try clear hcz14_6
     try clear hcz14_7
     try clear hcz14_8
     try clear hcz14_9
     try clear hcz15_0
     try clear hcz15_1
     try clear hcz15_10
     try clear hcz15_2
     try clear hcz15_3
     try clear hcz15_4
     try clear hcz15_5
     try clear hcz15_6
     try clear hcz15_7
     try clear hcz15_8
     try clear hcz15_9
     try clear hcz5_0
     try clear hcz5_1
     try clear hcz5_10
     try clear hcz5_2
     try clear hcz5_3
     try clear hcz5_4
     try clear hcz5_5
     try clear hcz5_6
     try clear hcz5_7
     try clear hcz5_8
     try clear hcz5_9
     try clear hcz6_0
     try clear hcz6_1
     try clear hcz6_10
     try clear hcz6_2
     try clear hcz6_3
     try clear hcz6_4
     try clear hcz6_5
     try clear hcz6_6
     try clear hcz6_7
     try clear hcz6_8
     try clear hcz6_9
     try clear hfz10_0
     try clear hfz10_1
     try clear hfz10_10
     try clear hfz10_2
     try clear hfz10_3
     try clear hfz10_4
     try clear hfz10_5
     try clear hfz10_6
     try clear hfz10_7
     try clear hfz10_8
     try clear hfz10_9
     try clear hfz12_0
     try clear hfz12_1
     try clear hfz12_10
     try clear hfz12_2
     try clear hfz12_3
     try clear hfz12_4
     try clear hfz12_5
     try clear hfz12_6
     try clear hfz12_7
     try clear hfz12_8
     try clear hfz12_9
     try clear hfz14_0
     try clear hfz14_1
     try clear hfz14_10
     try clear hfz14_2
     try clear hfz14_3
     try clear hfz14_4
     try clear hfz14_5
     try clear hfz14_6
     try clear hfz14_7
     try clear hfz14_8
     try clear hfz14_9
     try clear hfz15_0
     try clear hfz15_1
     try clear hfz15_10
     try clear hfz15_2
     try clear hfz15_3
     try clear hfz15_4
     try clear hfz15_5
     try clear hfz15_6
     try clear hfz15_7
     try clear hfz15_8
     try clear hfz15_9
     try clear hfz5_0
     try clear hfz5_1
     try clear hfz5_10
     try clear hfz5_2
     try clear hfz5_3
     try clear hfz5_4
     try clear hfz5_5
     try clear hfz5_6
     try clear hfz5_7
     try clear hfz5_8
     try clear hfz5_9
     try clear hfz6_0
     try clear hfz6_1
     try clear hfz6_10
     try clear hfz6_2
     try clear hfz6_3
     try clear hfz6_4
     try clear hfz6_5
     try clear hfz6_6
     try clear hfz6_7
     try clear hfz6_8
     try clear hfz6_9
     try clear p2
     obtain ⟨kq,x35_7,rfl,HA,HJ7,BK106,HB⟩:=hcut
     cases kq with
     | zero => exact absurd HA.out (by simp [spec_l2sound.j1])
     | succ kj7 =>
      have H:=HA.out
      clear HA
      simp only [spec_l2sound.j1] at H
      by_cases c16 : x35_7 = true
      ·subst c16
       have H1 : (some false) = some r:=by rw [if_pos rfl] at H;exact H
       clear H
       have H:=H1
       clear H1
       obtain rfl:=Option.some.inj H
       go_wp2
       go_ret
       exact ⟨by first | rfl | (simp [errW_none,errW_some] <;> rfl) | (simp [*,errW_none,errW_some] <;> rfl),by repeat (first | (with_reducible first | exact HB.out | apply below_alloc | apply pw_below_drewN | apply below_drew1 | refine below_set ?_ GE106.out) | exact HB.out)⟩
      ·replace c16:=Bool.eq_false_iff.mpr c16
       subst c16
       have H1 : ((spec_l2size.f a0_0 a0_6 a0_7 a0_8 a0_9 l0_10).bind fun t107 => (if a0_1 < 1 then (spec_l2sound.j2 kj7 t107 true a0_0 a0_1 a0_2 a0_3 a0_4 a0_5 a0_6 a0_7 a0_8 a0_9 l0_10) else (spec_l2sound.j2 kj7 t107 (decide (a0_1 > t107)) a0_0 a0_1 a0_2 a0_3 a0_4 a0_5 a0_6 a0_7 a0_8 a0_9 l0_10))) = some r:=by rw [if_neg (show ¬ (false = true) by decide)] at H;exact H
       clear H
       have H:=H1
       clear H1
       replace H:=Option.bind_eq_some_iff.mp H
       obtain ⟨t107,A170,H⟩:=H
       replace H : (if a0_1 < 1 then (spec_l2sound.j2 kj7 t107 true a0_0 a0_1 a0_2 a0_3 a0_4 a0_5 a0_6 a0_7 a0_8 a0_9 l0_10) else (spec_l2sound.j2 kj7 t107 (decide (a0_1 > t107)) a0_0 a0_1 a0_2 a0_3 a0_4 a0_5 a0_6 a0_7 a0_8 a0_9 l0_10)) = some r:=H
       have A17:=Aside0.mk A170
       clear A170
       have HC18:=Aside0.mk H
       clear H
       obtain ⟨hcz19_0,hcz19_1,hcz19_2,hcz19_3,hcz19_4,hcz19_5,hcz19_6,hcz19_7,hcz19_8,hcz19_9,hcz19_10⟩:=bc11 BK106.out
       obtain ⟨hfz19_0,hfz19_1,hfz19_2,hfz19_3,hfz19_4,hfz19_5,hfz19_6,hfz19_7,hfz19_8,hfz19_9,hfz19_10⟩:=bf11 BK106.out
       go_upto_region 6 with (first | ((with_reducible refine gate_callee (f:=24) rfl ?_);refine goesL_ (some 40) rfl rfl Tryd.func24 (by kernel_rfl) rfl #[.int .i64 a0_0, .agg #[.bool a0_6, .int .u32 a0_7, .bool a0_8, .int .i64 a0_9, .slice A0_10 l0_10.length c0_10]] rfl (by (try simp only [List.map_toArray,List.map_cons,List.map_nil]);first | done | rfl | (simp only [List.length_drop,List.length_take];rfl)) ?_;(with_reducible refine (spec_l2size.calls a0_0 a0_6 a0_7 a0_8 a0_9 _ _ l0_10 t107 _ ?side1 ?side2 A17.out).mono ?_);(case side1 => repeat (first | exact (Kd.C_below HR0_10.out HB.out) | (with_reducible refine Kd.C_alloc ?_ _) | (with_reducible refine Kd.C_drewN ?_ _) | (with_reducible refine Kd.C_drew ?_)));(case side2 => exact HC0_10.out);rintro e w20 ⟨rfl,hb⟩;refine ⟨_,rfl, ?_⟩;have n0_:=Aside0.mk (blk_below (g:=gb106) (o := .cells #[.int .i64 a0_0, .int .i64 a0_1, .int .i64 a0_2, .int .i64 a0_3, .int .i64 a0_4, .int .i64 a0_5, .bool a0_6, .int .u32 a0_7, .bool a0_8, .int .i64 a0_9, .slice A0_10 l0_10.length c0_10] 31 (0,0)) (by (with_reducible repeat (first | refine blk_drewN ?_ _ | refine blk_drew ?_ | refine blk_alloc ?_ _));exact BK106.out) hb);have n1_:=Aside0.mk (below_step (by repeat (first | (with_reducible first | exact HB.out | apply below_alloc | apply pw_below_drewN | apply below_drew1 | refine below_set ?_ GE106.out) | exact HB.out)) hb);clear BK106;clear HB;have BK106:=n0_;have HB:=n1_;clear n0_ n1_;(try clear hb);(try clear hb2);(try clear hk);(try clear hi)))
       (try simp only [Act.put,List.setIfInBounds_toArray,List.set_cons_zero,List.set_cons_succ])
       go_cut [49] (fun v49 wc => ∃ (kq : Nat) (x49_17 : Bool),v49 = .bool x49_17 ∧ Aside0 (spec_l2sound.j2 kq t107 x49_17 a0_0 a0_1 a0_2 a0_3 a0_4 a0_5 a0_6 a0_7 a0_8 a0_9 l0_10 = some r) ∧ Aside0 (kq ≤ kj7) ∧ Aside0 (wc.heap[gb106]? = some (.cells #[.int .i64 a0_0, .int .i64 a0_1, .int .i64 a0_2, .int .i64 a0_3, .int .i64 a0_4, .int .i64 a0_5, .bool a0_6, .int .u32 a0_7, .bool a0_8, .int .i64 a0_9,(.slice A0_10 l0_10.length c0_10)] 31 (0,0))) ∧ Aside0 (Below w.heap.size w wc))
       case first =>
        have H:=HC18.out
        clear HC18
        by_cases c21 : a0_1 < 1
        ·rw [if_pos c21] at H
         have c21b0 : decide (a0_1 < 1) = true:=decide_eq_true c21
         clear c21
         (first | rw [c21b0] | (simp only [i64_w,i32_w];rw [c21b0]) | skip)
         have H':=Aside0.mk H
         clear H
         obtain ⟨hcz22_0,hcz22_1,hcz22_2,hcz22_3,hcz22_4,hcz22_5,hcz22_6,hcz22_7,hcz22_8,hcz22_9,hcz22_10⟩:=bc11 BK106.out
         obtain ⟨hfz22_0,hfz22_1,hfz22_2,hfz22_3,hfz22_4,hfz22_5,hfz22_6,hfz22_7,hfz22_8,hfz22_9,hfz22_10⟩:=bf11 BK106.out
         go_wp2
         go_meet
         case rel => exact ⟨_,(true),(by first | rfl | (simp;done) | (simp [*];done)),H',⟨by have:=HJ1.out;have:=HJ7.out;first | omega | exact Nat.le_refl _⟩,⟨by (with_reducible repeat (first | refine blk_drewN ?_ _ | refine blk_drew ?_ | refine blk_alloc ?_ _));exact BK106.out⟩,⟨by repeat (first | (with_reducible first | exact HB.out | apply below_alloc | apply pw_below_drewN | apply below_drew1 | refine below_set ?_ GE106.out) | exact HB.out)⟩⟩
        ·rw [if_neg c21] at H
         have c21b0 : decide (a0_1 < 1) = false:=decide_eq_false c21
         clear c21
         (first | rw [c21b0] | (simp only [i64_w,i32_w];rw [c21b0]) | skip)
         have H':=Aside0.mk H
         clear H
         obtain ⟨hcz23_0,hcz23_1,hcz23_2,hcz23_3,hcz23_4,hcz23_5,hcz23_6,hcz23_7,hcz23_8,hcz23_9,hcz23_10⟩:=bc11 BK106.out
         obtain ⟨hfz23_0,hfz23_1,hfz23_2,hfz23_3,hfz23_4,hfz23_5,hfz23_6,hfz23_7,hfz23_8,hfz23_9,hfz23_10⟩:=bf11 BK106.out
         go_wp2
         go_meet
         case rel => exact ⟨_,(decide (a0_1 > t107)),(by first | rfl | (simp;done) | (simp [*];done)),H',⟨by have:=HJ1.out;have:=HJ7.out;first | omega | exact Nat.le_refl _⟩,⟨by (with_reducible repeat (first | refine blk_drewN ?_ _ | refine blk_drew ?_ | refine blk_alloc ?_ _));exact BK106.out⟩,⟨by repeat (first | (with_reducible first | exact HB.out | apply below_alloc | apply pw_below_drewN | apply below_drew1 | refine below_set ?_ GE106.out) | exact HB.out)⟩⟩
       case rest =>
        clear HC18
        try clear c1
        try clear c2
        try clear p2
        try clear c4
        try clear c4b0
        try clear c7
        try clear c9
        try clear c9b0
        try clear c11
        try clear c11b0
        try clear c13
        try clear c13b0
        try clear c16
        try clear c19
        try clear c21
        try clear c21b0
        try clear hcz10_0
        try clear hcz10_1
        try clear hcz10_10
        try clear hcz10_2
        try clear hcz10_3
        try clear hcz10_4
        try clear hcz10_5
        try clear hcz10_6
        try clear hcz10_7
        try clear hcz10_8
        try clear hcz10_9
        try clear hcz12_0
        try clear hcz12_1
        try clear hcz12_10
        try clear hcz12_2
        try clear hcz12_3
        try clear hcz12_4
        try clear hcz12_5
        try clear hcz12_6
        try clear hcz12_7
        try clear hcz12_8
        try clear hcz12_9
        try clear hcz14_0
        try clear hcz14_1
        try clear hcz14_10
        try clear hcz14_2
        try clear hcz14_3
        try clear hcz14_4
        try clear hcz14_5
        try clear hcz14_6
        try clear hcz14_7
        try clear hcz14_8
        try clear hcz14_9
        try clear hcz15_0
        try clear hcz15_1
        try clear hcz15_10
        try clear hcz15_2
        try clear hcz15_3
        try clear hcz15_4
        try clear hcz15_5
        try clear hcz15_6
        try clear hcz15_7
        try clear hcz15_8
        try clear hcz15_9
        try clear hcz19_0
        try clear hcz19_1
        try clear hcz19_10
        try clear hcz19_2
        try clear hcz19_3
        try clear hcz19_4
        try clear hcz19_5
        try clear hcz19_6
        try clear hcz19_7
        try clear hcz19_8
        try clear hcz19_9
        try clear hcz22_0
        try clear hcz22_1
        try clear hcz22_10
        try clear hcz22_2
        try clear hcz22_3
        try clear hcz22_4
        try clear hcz22_5
        try clear hcz22_6
        try clear hcz22_7
        try clear hcz22_8
        try clear hcz22_9
        try clear hcz23_0
        try clear hcz23_1
        try clear hcz23_10
        try clear hcz23_2
        try clear hcz23_3
        try clear hcz23_4
        try clear hcz23_5
        try clear hcz23_6
        try clear hcz23_7
        try clear hcz23_8
        try clear hcz23_9
        try clear hcz5_0
        try clear hcz5_1
        try clear hcz5_10
        try clear hcz5_2
        try clear hcz5_3
        try clear hcz5_4
        try clear hcz5_5
        try clear hcz5_6
        try clear hcz5_7
        try clear hcz5_8
        try clear hcz5_9
        try clear hcz6_0
        try clear hcz6_1
        try clear hcz6_10
        try clear hcz6_2
        try clear hcz6_3
        try clear hcz6_4
        try clear hcz6_5
        try clear hcz6_6
        try clear hcz6_7
        try clear hcz6_8
        try clear hcz6_9
        try clear hfz10_0
        try clear hfz10_1
        try clear hfz10_10
        try clear hfz10_2
        try clear hfz10_3
        try clear hfz10_4
        try clear hfz10_5
        try clear hfz10_6
        try clear hfz10_7
        try clear hfz10_8
        try clear hfz10_9
        try clear hfz12_0
        try clear hfz12_1
        try clear hfz12_10
        try clear hfz12_2
        try clear hfz12_3
        try clear hfz12_4
        try clear hfz12_5
        try clear hfz12_6
        try clear hfz12_7
        try clear hfz12_8
        try clear hfz12_9
        try clear hfz14_0
        try clear hfz14_1
        try clear hfz14_10
        try clear hfz14_2
        try clear hfz14_3
        try clear hfz14_4
        try clear hfz14_5
        try clear hfz14_6
        try clear hfz14_7
        try clear hfz14_8
        try clear hfz14_9
        try clear hfz15_0
        try clear hfz15_1
        try clear hfz15_10
        try clear hfz15_2
        try clear hfz15_3
        try clear hfz15_4
        try clear hfz15_5
        try clear hfz15_6
        try clear hfz15_7
        try clear hfz15_8
        try clear hfz15_9
        try clear hfz19_0
        try clear hfz19_1
        try clear hfz19_10
        try clear hfz19_2
        try clear hfz19_3
        try clear hfz19_4
        try clear hfz19_5
        try clear hfz19_6
        try clear hfz19_7
        try clear hfz19_8
        try clear hfz19_9
        try clear hfz22_0
        try clear hfz22_1
        try clear hfz22_10
        try clear hfz22_2
        try clear hfz22_3
        try clear hfz22_4
        try clear hfz22_5
        try clear hfz22_6
        try clear hfz22_7
        try clear hfz22_8
        try clear hfz22_9
        try clear hfz23_0
        try clear hfz23_1
        try clear hfz23_10
        try clear hfz23_2
        try clear hfz23_3
        try clear hfz23_4
        try clear hfz23_5
        try clear hfz23_6
        try clear hfz23_7
        try clear hfz23_8
        try clear hfz23_9
        try clear hfz5_0
        try clear hfz5_1
        try clear hfz5_10
        try clear hfz5_2
        try clear hfz5_3
        try clear hfz5_4
        try clear hfz5_5
        try clear hfz5_6
        try clear hfz5_7
        try clear hfz5_8
        try clear hfz5_9
        try clear hfz6_0
        try clear hfz6_1
        try clear hfz6_10
        try clear hfz6_2
        try clear hfz6_3
        try clear hfz6_4
        try clear hfz6_5
        try clear hfz6_6
        try clear hfz6_7
        try clear hfz6_8
        try clear hfz6_9
        try clear p2
        obtain ⟨kq,x49_17,rfl,HA,HJ17,BK106,HB⟩:=hcut
        cases kq with
        | zero => exact absurd HA.out (by simp [spec_l2sound.j2])
        | succ kj17 =>
         have H:=HA.out
         clear HA
         simp only [spec_l2sound.j2] at H
         by_cases c24 : x49_17 = true
         ·subst c24
          have H1 : (some false) = some r:=by rw [if_pos rfl] at H;exact H
          clear H
          have H:=H1
          clear H1
          obtain rfl:=Option.some.inj H
          go_wp2
          go_ret
          exact ⟨by first | rfl | (simp [errW_none,errW_some] <;> rfl) | (simp [*,errW_none,errW_some] <;> rfl),by repeat (first | (with_reducible first | exact HB.out | apply below_alloc | apply pw_below_drewN | apply below_drew1 | refine below_set ?_ GE106.out) | exact HB.out)⟩
         ·replace c24:=Bool.eq_false_iff.mpr c24
          subst c24
          have H1 : (if a0_2 < 0 then (spec_l2sound.j3 kj17 t107 true a0_0 a0_1 a0_2 a0_3 a0_4 a0_5 a0_6 a0_7 a0_8 a0_9 l0_10) else (if a0_2 > 5 then (spec_l2sound.j3 kj17 t107 true a0_0 a0_1 a0_2 a0_3 a0_4 a0_5 a0_6 a0_7 a0_8 a0_9 l0_10) else (if a0_3 < 0 then (spec_l2sound.j3 kj17 t107 true a0_0 a0_1 a0_2 a0_3 a0_4 a0_5 a0_6 a0_7 a0_8 a0_9 l0_10) else (if a0_3 > 1 then (spec_l2sound.j3 kj17 t107 true a0_0 a0_1 a0_2 a0_3 a0_4 a0_5 a0_6 a0_7 a0_8 a0_9 l0_10) else (if a0_2 = 0 then (spec_l2sound.j3 kj17 t107 (a0_3 == 1) a0_0 a0_1 a0_2 a0_3 a0_4 a0_5 a0_6 a0_7 a0_8 a0_9 l0_10) else (spec_l2sound.j3 kj17 t107 false a0_0 a0_1 a0_2 a0_3 a0_4 a0_5 a0_6 a0_7 a0_8 a0_9 l0_10)))))) = some r:=by rw [if_neg (show ¬ (false = true) by decide)] at H;exact H
          clear H
          have H:=H1
          clear H1
          have HC25:=Aside0.mk H
          clear H
          go_upto_region 8 with (fail)
          go_cut [77] (fun v77 wc => ∃ (kq : Nat) (x77_24 : Bool),v77 = .bool x77_24 ∧ Aside0 (spec_l2sound.j3 kq t107 x77_24 a0_0 a0_1 a0_2 a0_3 a0_4 a0_5 a0_6 a0_7 a0_8 a0_9 l0_10 = some r) ∧ Aside0 (kq ≤ kj17) ∧ Aside0 (wc.heap[gb106]? = some (.cells #[.int .i64 a0_0, .int .i64 a0_1, .int .i64 a0_2, .int .i64 a0_3, .int .i64 a0_4, .int .i64 a0_5, .bool a0_6, .int .u32 a0_7, .bool a0_8, .int .i64 a0_9,(.slice A0_10 l0_10.length c0_10)] 31 (0,0))) ∧ Aside0 (Below w.heap.size w wc))
          case first =>
           have H:=HC25.out
           clear HC25
           by_cases c26 : a0_2 < 0
           ·rw [if_pos c26] at H
            have c26b0 : decide (a0_2 < 0) = true:=decide_eq_true c26
            clear c26
            (first | rw [c26b0] | (simp only [i64_w,i32_w];rw [c26b0]) | skip)
            have H':=Aside0.mk H
            clear H
            obtain ⟨hcz27_0,hcz27_1,hcz27_2,hcz27_3,hcz27_4,hcz27_5,hcz27_6,hcz27_7,hcz27_8,hcz27_9,hcz27_10⟩:=bc11 BK106.out
            obtain ⟨hfz27_0,hfz27_1,hfz27_2,hfz27_3,hfz27_4,hfz27_5,hfz27_6,hfz27_7,hfz27_8,hfz27_9,hfz27_10⟩:=bf11 BK106.out
            go_wp2
            go_meet
            case rel => exact ⟨_,(true),(by first | rfl | (simp;done) | (simp [*];done)),H',⟨by have:=HJ1.out;have:=HJ7.out;have:=HJ17.out;first | omega | exact Nat.le_refl _⟩,⟨by (with_reducible repeat (first | refine blk_drewN ?_ _ | refine blk_drew ?_ | refine blk_alloc ?_ _));exact BK106.out⟩,⟨by repeat (first | (with_reducible first | exact HB.out | apply below_alloc | apply pw_below_drewN | apply below_drew1 | refine below_set ?_ GE106.out) | exact HB.out)⟩⟩
           ·rw [if_neg c26] at H
            have c26b0 : decide (a0_2 < 0) = false:=decide_eq_false c26
            clear c26
            (first | rw [c26b0] | (simp only [i64_w,i32_w];rw [c26b0]) | skip)
            by_cases c28 : a0_2 > 5
            ·rw [if_pos c28] at H
             have c28b0 : decide (5 < a0_2) = true:=decide_eq_true c28
             clear c28
             have H':=Aside0.mk H
             clear H
             obtain ⟨hcz29_0,hcz29_1,hcz29_2,hcz29_3,hcz29_4,hcz29_5,hcz29_6,hcz29_7,hcz29_8,hcz29_9,hcz29_10⟩:=bc11 BK106.out
             obtain ⟨hfz29_0,hfz29_1,hfz29_2,hfz29_3,hfz29_4,hfz29_5,hfz29_6,hfz29_7,hfz29_8,hfz29_9,hfz29_10⟩:=bf11 BK106.out
             go_wp2
             go_meet
             case rel => exact ⟨_,(true),(by first | rfl | (simp;done) | (simp [*];done)),H',⟨by have:=HJ1.out;have:=HJ7.out;have:=HJ17.out;first | omega | exact Nat.le_refl _⟩,⟨by (with_reducible repeat (first | refine blk_drewN ?_ _ | refine blk_drew ?_ | refine blk_alloc ?_ _));exact BK106.out⟩,⟨by repeat (first | (with_reducible first | exact HB.out | apply below_alloc | apply pw_below_drewN | apply below_drew1 | refine below_set ?_ GE106.out) | exact HB.out)⟩⟩
            ·rw [if_neg c28] at H
             have c28b0 : decide (5 < a0_2) = false:=decide_eq_false c28
             clear c28
             by_cases c30 : a0_3 < 0
             ·rw [if_pos c30] at H
              have c30b0 : decide (a0_3 < 0) = true:=decide_eq_true c30
              clear c30
              have H':=Aside0.mk H
              clear H
              obtain ⟨hcz31_0,hcz31_1,hcz31_2,hcz31_3,hcz31_4,hcz31_5,hcz31_6,hcz31_7,hcz31_8,hcz31_9,hcz31_10⟩:=bc11 BK106.out
              obtain ⟨hfz31_0,hfz31_1,hfz31_2,hfz31_3,hfz31_4,hfz31_5,hfz31_6,hfz31_7,hfz31_8,hfz31_9,hfz31_10⟩:=bf11 BK106.out
              go_wp2
              go_meet
              case rel => exact ⟨_,(true),(by first | rfl | (simp;done) | (simp [*];done)),H',⟨by have:=HJ1.out;have:=HJ7.out;have:=HJ17.out;first | omega | exact Nat.le_refl _⟩,⟨by (with_reducible repeat (first | refine blk_drewN ?_ _ | refine blk_drew ?_ | refine blk_alloc ?_ _));exact BK106.out⟩,⟨by repeat (first | (with_reducible first | exact HB.out | apply below_alloc | apply pw_below_drewN | apply below_drew1 | refine below_set ?_ GE106.out) | exact HB.out)⟩⟩
             ·rw [if_neg c30] at H
              have c30b0 : decide (a0_3 < 0) = false:=decide_eq_false c30
              clear c30
              by_cases c32 : a0_3 > 1
              ·rw [if_pos c32] at H
               have c32b0 : decide (1 < a0_3) = true:=decide_eq_true c32
               clear c32
               have H':=Aside0.mk H
               clear H
               obtain ⟨hcz33_0,hcz33_1,hcz33_2,hcz33_3,hcz33_4,hcz33_5,hcz33_6,hcz33_7,hcz33_8,hcz33_9,hcz33_10⟩:=bc11 BK106.out
               obtain ⟨hfz33_0,hfz33_1,hfz33_2,hfz33_3,hfz33_4,hfz33_5,hfz33_6,hfz33_7,hfz33_8,hfz33_9,hfz33_10⟩:=bf11 BK106.out
               go_wp2
               go_meet
               case rel => exact ⟨_,(true),(by first | rfl | (simp;done) | (simp [*];done)),H',⟨by have:=HJ1.out;have:=HJ7.out;have:=HJ17.out;first | omega | exact Nat.le_refl _⟩,⟨by (with_reducible repeat (first | refine blk_drewN ?_ _ | refine blk_drew ?_ | refine blk_alloc ?_ _));exact BK106.out⟩,⟨by repeat (first | (with_reducible first | exact HB.out | apply below_alloc | apply pw_below_drewN | apply below_drew1 | refine below_set ?_ GE106.out) | exact HB.out)⟩⟩
              ·rw [if_neg c32] at H
               have c32b0 : decide (1 < a0_3) = false:=decide_eq_false c32
               clear c32
               by_cases c34 : a0_2 = 0
               ·rw [if_pos c34] at H
                have c34b0 : (a0_2 == 0) = true:=beq_iff_eq.mpr c34
                have c34b1 : (a0_2 != 0) = false:=bne_eq_false_iff_eq.mpr c34
                clear c34
                have H':=Aside0.mk H
                clear H
                obtain ⟨hcz35_0,hcz35_1,hcz35_2,hcz35_3,hcz35_4,hcz35_5,hcz35_6,hcz35_7,hcz35_8,hcz35_9,hcz35_10⟩:=bc11 BK106.out
                obtain ⟨hfz35_0,hfz35_1,hfz35_2,hfz35_3,hfz35_4,hfz35_5,hfz35_6,hfz35_7,hfz35_8,hfz35_9,hfz35_10⟩:=bf11 BK106.out
                go_wp2
                go_meet
                case rel => exact ⟨_,((a0_3 == 1)),(by first | rfl | (simp;done) | (simp [*];done)),H',⟨by have:=HJ1.out;have:=HJ7.out;have:=HJ17.out;first | omega | exact Nat.le_refl _⟩,⟨by (with_reducible repeat (first | refine blk_drewN ?_ _ | refine blk_drew ?_ | refine blk_alloc ?_ _));exact BK106.out⟩,⟨by repeat (first | (with_reducible first | exact HB.out | apply below_alloc | apply pw_below_drewN | apply below_drew1 | refine below_set ?_ GE106.out) | exact HB.out)⟩⟩
               ·rw [if_neg c34] at H
                have c34b0 : (a0_2 == 0) = false:=beq_eq_false_iff_ne.mpr c34
                have c34b1 : (a0_2 != 0) = true:=bne_iff_ne.mpr c34
                have H':=Aside0.mk H
                clear H
                obtain ⟨hcz36_0,hcz36_1,hcz36_2,hcz36_3,hcz36_4,hcz36_5,hcz36_6,hcz36_7,hcz36_8,hcz36_9,hcz36_10⟩:=bc11 BK106.out
                obtain ⟨hfz36_0,hfz36_1,hfz36_2,hfz36_3,hfz36_4,hfz36_5,hfz36_6,hfz36_7,hfz36_8,hfz36_9,hfz36_10⟩:=bf11 BK106.out
                go_wp2
                go_meet
                case rel => exact ⟨_,(false),(by first | rfl | (simp;done) | (simp [*];done)),H',⟨by have:=HJ1.out;have:=HJ7.out;have:=HJ17.out;first | omega | exact Nat.le_refl _⟩,⟨by (with_reducible repeat (first | refine blk_drewN ?_ _ | refine blk_drew ?_ | refine blk_alloc ?_ _));exact BK106.out⟩,⟨by repeat (first | (with_reducible first | exact HB.out | apply below_alloc | apply pw_below_drewN | apply below_drew1 | refine below_set ?_ GE106.out) | exact HB.out)⟩⟩
          case rest =>
           clear HC25
           try clear c1
           try clear c2
           try clear p2
           try clear c3
           try clear c4
           try clear c4b0
           try clear c7
           try clear c9
           try clear c9b0
           try clear c11
           try clear c11b0
           try clear c13
           try clear c13b0
           try clear c16
           try clear c19
           try clear c21
           try clear c21b0
           try clear c24
           try clear c26
           try clear c26b0
           try clear c28
           try clear c28b0
           try clear c30
           try clear c30b0
           try clear c32
           try clear c32b0
           try clear c34
           try clear c34b0
           try clear c34b1
           try clear hcz10_0
           try clear hcz10_1
           try clear hcz10_10
           try clear hcz10_2
           try clear hcz10_3
           try clear hcz10_4
           try clear hcz10_5
           try clear hcz10_6
           try clear hcz10_7
           try clear hcz10_8
           try clear hcz10_9
           try clear hcz12_0
           try clear hcz12_1
           try clear hcz12_10
           try clear hcz12_2
           try clear hcz12_3
           try clear hcz12_4
           try clear hcz12_5
           try clear hcz12_6
           try clear hcz12_7
           try clear hcz12_8
           try clear hcz12_9
           try clear hcz14_0
           try clear hcz14_1
           try clear hcz14_10
           try clear hcz14_2
           try clear hcz14_3
           try clear hcz14_4
           try clear hcz14_5
           try clear hcz14_6
           try clear hcz14_7
           try clear hcz14_8
           try clear hcz14_9
           try clear hcz15_0
           try clear hcz15_1
           try clear hcz15_10
           try clear hcz15_2
           try clear hcz15_3
           try clear hcz15_4
           try clear hcz15_5
           try clear hcz15_6
           try clear hcz15_7
           try clear hcz15_8
           try clear hcz15_9
           try clear hcz19_0
           try clear hcz19_1
           try clear hcz19_10
           try clear hcz19_2
           try clear hcz19_3
           try clear hcz19_4
           try clear hcz19_5
           try clear hcz19_6
           try clear hcz19_7
           try clear hcz19_8
           try clear hcz19_9
           try clear hcz22_0
           try clear hcz22_1
           try clear hcz22_10
           try clear hcz22_2
           try clear hcz22_3
           try clear hcz22_4
           try clear hcz22_5
           try clear hcz22_6
           try clear hcz22_7
           try clear hcz22_8
           try clear hcz22_9
           try clear hcz23_0
           try clear hcz23_1
           try clear hcz23_10
           try clear hcz23_2
           try clear hcz23_3
           try clear hcz23_4
           try clear hcz23_5
           try clear hcz23_6
           try clear hcz23_7
           try clear hcz23_8
           try clear hcz23_9
           try clear hcz27_0
           try clear hcz27_1
           try clear hcz27_10
           try clear hcz27_2
           try clear hcz27_3
           try clear hcz27_4
           try clear hcz27_5
           try clear hcz27_6
           try clear hcz27_7
           try clear hcz27_8
           try clear hcz27_9
           try clear hcz29_0
           try clear hcz29_1
           try clear hcz29_10
           try clear hcz29_2
           try clear hcz29_3
           try clear hcz29_4
           try clear hcz29_5
           try clear hcz29_6
           try clear hcz29_7
           try clear hcz29_8
           try clear hcz29_9
           try clear hcz31_0
           try clear hcz31_1
           try clear hcz31_10
           try clear hcz31_2
           try clear hcz31_3
           try clear hcz31_4
           try clear hcz31_5
           try clear hcz31_6
           try clear hcz31_7
           try clear hcz31_8
           try clear hcz31_9
           try clear hcz33_0
           try clear hcz33_1
           try clear hcz33_10
           try clear hcz33_2
           try clear hcz33_3
           try clear hcz33_4
           try clear hcz33_5
           try clear hcz33_6
           try clear hcz33_7
           try clear hcz33_8
           try clear hcz33_9
           try clear hcz35_0
           try clear hcz35_1
           try clear hcz35_10
           try clear hcz35_2
           try clear hcz35_3
           try clear hcz35_4
           try clear hcz35_5
           try clear hcz35_6
           try clear hcz35_7
           try clear hcz35_8
           try clear hcz35_9
           try clear hcz36_0
           try clear hcz36_1
           try clear hcz36_10
           try clear hcz36_2
           try clear hcz36_3
           try clear hcz36_4
           try clear hcz36_5
           try clear hcz36_6
           try clear hcz36_7
           try clear hcz36_8
           try clear hcz36_9
           try clear hcz5_0
           try clear hcz5_1
           try clear hcz5_10
           try clear hcz5_2
           try clear hcz5_3
           try clear hcz5_4
           try clear hcz5_5
           try clear hcz5_6
           try clear hcz5_7
           try clear hcz5_8
           try clear hcz5_9
           try clear hcz6_0
           try clear hcz6_1
           try clear hcz6_10
           try clear hcz6_2
           try clear hcz6_3
           try clear hcz6_4
           try clear hcz6_5
           try clear hcz6_6
           try clear hcz6_7
           try clear hcz6_8
           try clear hcz6_9
           try clear hfz10_0
           try clear hfz10_1
           try clear hfz10_10
           try clear hfz10_2
           try clear hfz10_3
           try clear hfz10_4
           try clear hfz10_5
           try clear hfz10_6
           try clear hfz10_7
           try clear hfz10_8
           try clear hfz10_9
           try clear hfz12_0
           try clear hfz12_1
           try clear hfz12_10
           try clear hfz12_2
           try clear hfz12_3
           try clear hfz12_4
           try clear hfz12_5
           try clear hfz12_6
           try clear hfz12_7
           try clear hfz12_8
           try clear hfz12_9
           try clear hfz14_0
           try clear hfz14_1
           try clear hfz14_10
           try clear hfz14_2
           try clear hfz14_3
           try clear hfz14_4
           try clear hfz14_5
           try clear hfz14_6
           try clear hfz14_7
           try clear hfz14_8
           try clear hfz14_9
           try clear hfz15_0
           try clear hfz15_1
           try clear hfz15_10
           try clear hfz15_2
           try clear hfz15_3
           try clear hfz15_4
           try clear hfz15_5
           try clear hfz15_6
           try clear hfz15_7
           try clear hfz15_8
           try clear hfz15_9
           try clear hfz19_0
           try clear hfz19_1
           try clear hfz19_10
           try clear hfz19_2
           try clear hfz19_3
           try clear hfz19_4
           try clear hfz19_5
           try clear hfz19_6
           try clear hfz19_7
           try clear hfz19_8
           try clear hfz19_9
           try clear hfz22_0
           try clear hfz22_1
           try clear hfz22_10
           try clear hfz22_2
           try clear hfz22_3
           try clear hfz22_4
           try clear hfz22_5
           try clear hfz22_6
           try clear hfz22_7
           try clear hfz22_8
           try clear hfz22_9
           try clear hfz23_0
           try clear hfz23_1
           try clear hfz23_10
           try clear hfz23_2
           try clear hfz23_3
           try clear hfz23_4
           try clear hfz23_5
           try clear hfz23_6
           try clear hfz23_7
           try clear hfz23_8
           try clear hfz23_9
           try clear hfz27_0
           try clear hfz27_1
           try clear hfz27_10
           try clear hfz27_2
           try clear hfz27_3
           try clear hfz27_4
           try clear hfz27_5
           try clear hfz27_6
           try clear hfz27_7
           try clear hfz27_8
           try clear hfz27_9
           try clear hfz29_0
           try clear hfz29_1
           try clear hfz29_10
           try clear hfz29_2
           try clear hfz29_3
           try clear hfz29_4
           try clear hfz29_5
           try clear hfz29_6
           try clear hfz29_7
           try clear hfz29_8
           try clear hfz29_9
           try clear hfz31_0
           try clear hfz31_1
           try clear hfz31_10
           try clear hfz31_2
           try clear hfz31_3
           try clear hfz31_4
           try clear hfz31_5
           try clear hfz31_6
           try clear hfz31_7
           try clear hfz31_8
           try clear hfz31_9
           try clear hfz33_0
           try clear hfz33_1
           try clear hfz33_10
           try clear hfz33_2
           try clear hfz33_3
           try clear hfz33_4
           try clear hfz33_5
           try clear hfz33_6
           try clear hfz33_7
           try clear hfz33_8
           try clear hfz33_9
           try clear hfz35_0
           try clear hfz35_1
           try clear hfz35_10
           try clear hfz35_2
           try clear hfz35_3
           try clear hfz35_4
           try clear hfz35_5
           try clear hfz35_6
           try clear hfz35_7
           try clear hfz35_8
           try clear hfz35_9
           try clear hfz36_0
           try clear hfz36_1
           try clear hfz36_10
           try clear hfz36_2
           try clear hfz36_3
           try clear hfz36_4
           try clear hfz36_5
           try clear hfz36_6
           try clear hfz36_7
           try clear hfz36_8
           try clear hfz36_9
           try clear hfz5_0
           try clear hfz5_1
           try clear hfz5_10
           try clear hfz5_2
           try clear hfz5_3
           try clear hfz5_4
           try clear hfz5_5
           try clear hfz5_6
           try clear hfz5_7
           try clear hfz5_8
           try clear hfz5_9
           try clear hfz6_0
           try clear hfz6_1
           try clear hfz6_10
           try clear hfz6_2
           try clear hfz6_3
           try clear hfz6_4
           try clear hfz6_5
           try clear hfz6_6
           try clear hfz6_7
           try clear hfz6_8
           try clear hfz6_9
           try clear p2
           obtain ⟨kq,x77_24,rfl,HA,HJ24,BK106,HB⟩:=hcut
           cases kq with
           | zero => exact absurd HA.out (by simp [spec_l2sound.j3])
           | succ kj24 =>
            have H:=HA.out
            clear HA
            simp only [spec_l2sound.j3] at H
            by_cases c37 : x77_24 = true
            ·subst c37
             have H1 : (some false) = some r:=by rw [if_pos rfl] at H;exact H
             clear H
             have H:=H1
             clear H1
             obtain rfl:=Option.some.inj H
             go_wp2
             go_ret
             exact ⟨by first | rfl | (simp [errW_none,errW_some] <;> rfl) | (simp [*,errW_none,errW_some] <;> rfl),by repeat (first | (with_reducible first | exact HB.out | apply below_alloc | apply pw_below_drewN | apply below_drew1 | refine below_set ?_ GE106.out) | exact HB.out)⟩
            ·replace c37:=Bool.eq_false_iff.mpr c37
             subst c37
             have H1 : (if a0_0 = 1 then (spec_l2sound.j4 kj24 t107 true a0_0 a0_1 a0_2 a0_3 a0_4 a0_5 a0_6 a0_7 a0_8 a0_9 l0_10) else (spec_l2sound.j4 kj24 t107 (decide (a0_0 > 11)) a0_0 a0_1 a0_2 a0_3 a0_4 a0_5 a0_6 a0_7 a0_8 a0_9 l0_10)) = some r:=by rw [if_neg (show ¬ (false = true) by decide)] at H;exact H
             clear H
             have H:=H1
             clear H1
             have HC38:=Aside0.mk H
             clear H
             go_upto_region 10 with (fail)
             go_cut [4] (fun v4 wc => ∃ (kq : Nat) (x4_37 : Bool),v4 = .bool x4_37 ∧ Aside0 (spec_l2sound.j4 kq t107 x4_37 a0_0 a0_1 a0_2 a0_3 a0_4 a0_5 a0_6 a0_7 a0_8 a0_9 l0_10 = some r) ∧ Aside0 (kq ≤ kj24) ∧ Aside0 (wc.heap[gb106]? = some (.cells #[.int .i64 a0_0, .int .i64 a0_1, .int .i64 a0_2, .int .i64 a0_3, .int .i64 a0_4, .int .i64 a0_5, .bool a0_6, .int .u32 a0_7, .bool a0_8, .int .i64 a0_9,(.slice A0_10 l0_10.length c0_10)] 31 (0,0))) ∧ Aside0 (Below w.heap.size w wc))
             case first =>
              have H:=HC38.out
              clear HC38
              by_cases c39 : a0_0 = 1
              ·rw [if_pos c39] at H
               have c39b0 : (a0_0 == 1) = true:=beq_iff_eq.mpr c39
               have c39b1 : (a0_0 != 1) = false:=bne_eq_false_iff_eq.mpr c39
               clear c39
               (first | rw [c39b0] | (simp only [i64_w,i32_w];rw [c39b0]) | skip)
               have H':=Aside0.mk H
               clear H
               obtain ⟨hcz40_0,hcz40_1,hcz40_2,hcz40_3,hcz40_4,hcz40_5,hcz40_6,hcz40_7,hcz40_8,hcz40_9,hcz40_10⟩:=bc11 BK106.out
               obtain ⟨hfz40_0,hfz40_1,hfz40_2,hfz40_3,hfz40_4,hfz40_5,hfz40_6,hfz40_7,hfz40_8,hfz40_9,hfz40_10⟩:=bf11 BK106.out
               go_wp2
               go_meet
               case rel => exact ⟨_,(true),(by first | rfl | (simp;done) | (simp [*];done)),H',⟨by have:=HJ1.out;have:=HJ7.out;have:=HJ17.out;have:=HJ24.out;first | omega | exact Nat.le_refl _⟩,⟨by (with_reducible repeat (first | refine blk_drewN ?_ _ | refine blk_drew ?_ | refine blk_alloc ?_ _));exact BK106.out⟩,⟨by repeat (first | (with_reducible first | exact HB.out | apply below_alloc | apply pw_below_drewN | apply below_drew1 | refine below_set ?_ GE106.out) | exact HB.out)⟩⟩
              ·rw [if_neg c39] at H
               have c39b0 : (a0_0 == 1) = false:=beq_eq_false_iff_ne.mpr c39
               have c39b1 : (a0_0 != 1) = true:=bne_iff_ne.mpr c39
               (first | rw [c39b0] | (simp only [i64_w,i32_w];rw [c39b0]) | skip)
               have H':=Aside0.mk H
               clear H
               obtain ⟨hcz41_0,hcz41_1,hcz41_2,hcz41_3,hcz41_4,hcz41_5,hcz41_6,hcz41_7,hcz41_8,hcz41_9,hcz41_10⟩:=bc11 BK106.out
               obtain ⟨hfz41_0,hfz41_1,hfz41_2,hfz41_3,hfz41_4,hfz41_5,hfz41_6,hfz41_7,hfz41_8,hfz41_9,hfz41_10⟩:=bf11 BK106.out
               go_wp2
               go_meet
               case rel => exact ⟨_,(decide (a0_0 > 11)),(by first | rfl | (simp;done) | (simp [*];done)),H',⟨by have:=HJ1.out;have:=HJ7.out;have:=HJ17.out;have:=HJ24.out;first | omega | exact Nat.le_refl _⟩,⟨by (with_reducible repeat (first | refine blk_drewN ?_ _ | refine blk_drew ?_ | refine blk_alloc ?_ _));exact BK106.out⟩,⟨by repeat (first | (with_reducible first | exact HB.out | apply below_alloc | apply pw_below_drewN | apply below_drew1 | refine below_set ?_ GE106.out) | exact HB.out)⟩⟩
             case rest =>
              clear HC38
              try clear c1
              try clear c2
              try clear p2
              try clear c3
              try clear c4
              try clear c4b0
              try clear c7
              try clear c9
              try clear c9b0
              try clear c11
              try clear c11b0
              try clear c13
              try clear c13b0
              try clear c16
              try clear c19
              try clear c21
              try clear c21b0
              try clear c24
              try clear c26
              try clear c26b0
              try clear c28
              try clear c28b0
              try clear c30
              try clear c30b0
              try clear c32
              try clear c32b0
              try clear c34
              try clear c34b0
              try clear c34b1
              try clear c37
              try clear c39
              try clear c39b0
              try clear c39b1
              try clear hcz10_0
              try clear hcz10_1
              try clear hcz10_10
              try clear hcz10_2
              try clear hcz10_3
              try clear hcz10_4
              try clear hcz10_5
              try clear hcz10_6
              try clear hcz10_7
              try clear hcz10_8
              try clear hcz10_9
              try clear hcz12_0
              try clear hcz12_1
              try clear hcz12_10
              try clear hcz12_2
              try clear hcz12_3
              try clear hcz12_4
              try clear hcz12_5
              try clear hcz12_6
              try clear hcz12_7
              try clear hcz12_8
              try clear hcz12_9
              try clear hcz14_0
              try clear hcz14_1
              try clear hcz14_10
              try clear hcz14_2
              try clear hcz14_3
              try clear hcz14_4
              try clear hcz14_5
              try clear hcz14_6
              try clear hcz14_7
              try clear hcz14_8
              try clear hcz14_9
              try clear hcz15_0
              try clear hcz15_1
              try clear hcz15_10
              try clear hcz15_2
              try clear hcz15_3
              try clear hcz15_4
              try clear hcz15_5
              try clear hcz15_6
              try clear hcz15_7
              try clear hcz15_8
              try clear hcz15_9
              try clear hcz19_0
              try clear hcz19_1
              try clear hcz19_10
              try clear hcz19_2
              try clear hcz19_3
              try clear hcz19_4
              try clear hcz19_5
              try clear hcz19_6
              try clear hcz19_7
              try clear hcz19_8
              try clear hcz19_9
              try clear hcz22_0
              try clear hcz22_1
              try clear hcz22_10
              try clear hcz22_2
              try clear hcz22_3
              try clear hcz22_4
              try clear hcz22_5
              try clear hcz22_6
              try clear hcz22_7
              try clear hcz22_8
              try clear hcz22_9
              try clear hcz23_0
              try clear hcz23_1
              try clear hcz23_10
              try clear hcz23_2
              try clear hcz23_3
              try clear hcz23_4
              try clear hcz23_5
              try clear hcz23_6
              try clear hcz23_7
              try clear hcz23_8
              try clear hcz23_9
              try clear hcz27_0
              try clear hcz27_1
              try clear hcz27_10
              try clear hcz27_2
              try clear hcz27_3
              try clear hcz27_4
              try clear hcz27_5
              try clear hcz27_6
              try clear hcz27_7
              try clear hcz27_8
              try clear hcz27_9
              try clear hcz29_0
              try clear hcz29_1
              try clear hcz29_10
              try clear hcz29_2
              try clear hcz29_3
              try clear hcz29_4
              try clear hcz29_5
              try clear hcz29_6
              try clear hcz29_7
              try clear hcz29_8
              try clear hcz29_9
              try clear hcz31_0
              try clear hcz31_1
              try clear hcz31_10
              try clear hcz31_2
              try clear hcz31_3
              try clear hcz31_4
              try clear hcz31_5
              try clear hcz31_6
              try clear hcz31_7
              try clear hcz31_8
              try clear hcz31_9
              try clear hcz33_0
              try clear hcz33_1
              try clear hcz33_10
              try clear hcz33_2
              try clear hcz33_3
              try clear hcz33_4
              try clear hcz33_5
              try clear hcz33_6
              try clear hcz33_7
              try clear hcz33_8
              try clear hcz33_9
              try clear hcz35_0
              try clear hcz35_1
              try clear hcz35_10
              try clear hcz35_2
              try clear hcz35_3
              try clear hcz35_4
              try clear hcz35_5
              try clear hcz35_6
              try clear hcz35_7
              try clear hcz35_8
              try clear hcz35_9
              try clear hcz36_0
              try clear hcz36_1
              try clear hcz36_10
              try clear hcz36_2
              try clear hcz36_3
              try clear hcz36_4
              try clear hcz36_5
              try clear hcz36_6
              try clear hcz36_7
              try clear hcz36_8
              try clear hcz36_9
              try clear hcz40_0
              try clear hcz40_1
              try clear hcz40_10
              try clear hcz40_2
              try clear hcz40_3
              try clear hcz40_4
              try clear hcz40_5
              try clear hcz40_6
              try clear hcz40_7
              try clear hcz40_8
              try clear hcz40_9
              try clear hcz41_0
              try clear hcz41_1
              try clear hcz41_10
              try clear hcz41_2
              try clear hcz41_3
              try clear hcz41_4
              try clear hcz41_5
              try clear hcz41_6
              try clear hcz41_7
              try clear hcz41_8
              try clear hcz41_9
              try clear hcz5_0
              try clear hcz5_1
              try clear hcz5_10
              try clear hcz5_2
              try clear hcz5_3
              try clear hcz5_4
              try clear hcz5_5
              try clear hcz5_6
              try clear hcz5_7
              try clear hcz5_8
              try clear hcz5_9
              try clear hcz6_0
              try clear hcz6_1
              try clear hcz6_10
              try clear hcz6_2
              try clear hcz6_3
              try clear hcz6_4
              try clear hcz6_5
              try clear hcz6_6
              try clear hcz6_7
              try clear hcz6_8
              try clear hcz6_9
              try clear hfz10_0
              try clear hfz10_1
              try clear hfz10_10
              try clear hfz10_2
              try clear hfz10_3
              try clear hfz10_4
              try clear hfz10_5
              try clear hfz10_6
              try clear hfz10_7
              try clear hfz10_8
              try clear hfz10_9
              try clear hfz12_0
              try clear hfz12_1
              try clear hfz12_10
              try clear hfz12_2
              try clear hfz12_3
              try clear hfz12_4
              try clear hfz12_5
              try clear hfz12_6
              try clear hfz12_7
              try clear hfz12_8
              try clear hfz12_9
              try clear hfz14_0
              try clear hfz14_1
              try clear hfz14_10
              try clear hfz14_2
              try clear hfz14_3
              try clear hfz14_4
              try clear hfz14_5
              try clear hfz14_6
              try clear hfz14_7
              try clear hfz14_8
              try clear hfz14_9
              try clear hfz15_0
              try clear hfz15_1
              try clear hfz15_10
              try clear hfz15_2
              try clear hfz15_3
              try clear hfz15_4
              try clear hfz15_5
              try clear hfz15_6
              try clear hfz15_7
              try clear hfz15_8
              try clear hfz15_9
              try clear hfz19_0
              try clear hfz19_1
              try clear hfz19_10
              try clear hfz19_2
              try clear hfz19_3
              try clear hfz19_4
              try clear hfz19_5
              try clear hfz19_6
              try clear hfz19_7
              try clear hfz19_8
              try clear hfz19_9
              try clear hfz22_0
              try clear hfz22_1
              try clear hfz22_10
              try clear hfz22_2
              try clear hfz22_3
              try clear hfz22_4
              try clear hfz22_5
              try clear hfz22_6
              try clear hfz22_7
              try clear hfz22_8
              try clear hfz22_9
              try clear hfz23_0
              try clear hfz23_1
              try clear hfz23_10
              try clear hfz23_2
              try clear hfz23_3
              try clear hfz23_4
              try clear hfz23_5
              try clear hfz23_6
              try clear hfz23_7
              try clear hfz23_8
              try clear hfz23_9
              try clear hfz27_0
              try clear hfz27_1
              try clear hfz27_10
              try clear hfz27_2
              try clear hfz27_3
              try clear hfz27_4
              try clear hfz27_5
              try clear hfz27_6
              try clear hfz27_7
              try clear hfz27_8
              try clear hfz27_9
              try clear hfz29_0
              try clear hfz29_1
              try clear hfz29_10
              try clear hfz29_2
              try clear hfz29_3
              try clear hfz29_4
              try clear hfz29_5
              try clear hfz29_6
              try clear hfz29_7
              try clear hfz29_8
              try clear hfz29_9
              try clear hfz31_0
              try clear hfz31_1
              try clear hfz31_10
              try clear hfz31_2
              try clear hfz31_3
              try clear hfz31_4
              try clear hfz31_5
              try clear hfz31_6
              try clear hfz31_7
              try clear hfz31_8
              try clear hfz31_9
              try clear hfz33_0
              try clear hfz33_1
              try clear hfz33_10
              try clear hfz33_2
              try clear hfz33_3
              try clear hfz33_4
              try clear hfz33_5
              try clear hfz33_6
              try clear hfz33_7
              try clear hfz33_8
              try clear hfz33_9
              try clear hfz35_0
              try clear hfz35_1
              try clear hfz35_10
              try clear hfz35_2
              try clear hfz35_3
              try clear hfz35_4
              try clear hfz35_5
              try clear hfz35_6
              try clear hfz35_7
              try clear hfz35_8
              try clear hfz35_9
              try clear hfz36_0
              try clear hfz36_1
              try clear hfz36_10
              try clear hfz36_2
              try clear hfz36_3
              try clear hfz36_4
              try clear hfz36_5
              try clear hfz36_6
              try clear hfz36_7
              try clear hfz36_8
              try clear hfz36_9
              try clear hfz40_0
              try clear hfz40_1
              try clear hfz40_10
              try clear hfz40_2
              try clear hfz40_3
              try clear hfz40_4
              try clear hfz40_5
              try clear hfz40_6
              try clear hfz40_7
              try clear hfz40_8
              try clear hfz40_9
              try clear hfz41_0
              try clear hfz41_1
              try clear hfz41_10
              try clear hfz41_2
              try clear hfz41_3
              try clear hfz41_4
              try clear hfz41_5
              try clear hfz41_6
              try clear hfz41_7
              try clear hfz41_8
              try clear hfz41_9
              try clear hfz5_0
              try clear hfz5_1
              try clear hfz5_10
              try clear hfz5_2
              try clear hfz5_3
              try clear hfz5_4
              try clear hfz5_5
              try clear hfz5_6
              try clear hfz5_7
              try clear hfz5_8
              try clear hfz5_9
              try clear hfz6_0
              try clear hfz6_1
              try clear hfz6_10
              try clear hfz6_2
              try clear hfz6_3
              try clear hfz6_4
              try clear hfz6_5
              try clear hfz6_6
              try clear hfz6_7
              try clear hfz6_8
              try clear hfz6_9
              try clear p2
              obtain ⟨kq,x4_37,rfl,HA,HJ37,BK106,HB⟩:=hcut
              cases kq with
              | zero => exact absurd HA.out (by simp [spec_l2sound.j4])
              | succ kj37 =>
               have H:=HA.out
               clear HA
               simp only [spec_l2sound.j4] at H
               by_cases c42 : (x4_37 != (a0_2 == 0)) = true
               ·rw [if_pos c42] at H
                have c42b0 : (x4_37 != (a0_2 == 0)) = true:=c42
                (try (have c42b1 : decide (x4_37 = (a0_2 == 0)) = false:=by simpa using c42))
                (try (have c42b2 : (x4_37 == (a0_2 == 0)) = false:=by simpa using c42))
                (try (have c42b3 : ¬ (x4_37 = (a0_2 == 0)):=by simpa using c42))
                clear c42
                obtain rfl:=Option.some.inj H
                obtain ⟨hcz43_0,hcz43_1,hcz43_2,hcz43_3,hcz43_4,hcz43_5,hcz43_6,hcz43_7,hcz43_8,hcz43_9,hcz43_10⟩:=bc11 BK106.out
                obtain ⟨hfz43_0,hfz43_1,hfz43_2,hfz43_3,hfz43_4,hfz43_5,hfz43_6,hfz43_7,hfz43_8,hfz43_9,hfz43_10⟩:=bf11 BK106.out
                go_wp2
                go_ret
                exact ⟨by first | rfl | (simp [errW_none,errW_some] <;> rfl) | (simp [*,errW_none,errW_some] <;> rfl),by repeat (first | (with_reducible first | exact HB.out | apply below_alloc | apply pw_below_drewN | apply below_drew1 | refine below_set ?_ GE106.out) | exact HB.out)⟩
               ·rw [if_neg c42] at H
                have c42b0 : (x4_37 != (a0_2 == 0)) = false:=by simpa using c42
                (try (have c42b1 : decide (x4_37 = (a0_2 == 0)) = true:=by simpa using c42))
                (try (have c42b2 : (x4_37 == (a0_2 == 0)) = true:=by simpa using c42))
                clear c42
                have HC44:=Aside0.mk H
                clear H
                obtain ⟨hcz45_0,hcz45_1,hcz45_2,hcz45_3,hcz45_4,hcz45_5,hcz45_6,hcz45_7,hcz45_8,hcz45_9,hcz45_10⟩:=bc11 BK106.out
                obtain ⟨hfz45_0,hfz45_1,hfz45_2,hfz45_3,hfz45_4,hfz45_5,hfz45_6,hfz45_7,hfz45_8,hfz45_9,hfz45_10⟩:=bf11 BK106.out
                go_upto_region 13 with (fail)
                go_cut [108] (fun v108 wc => ∃ (kq : Nat) (x108_43 : Bool),v108 = .bool x108_43 ∧ Aside0 (spec_l2sound.j5 kq t107 x108_43 a0_0 a0_1 a0_2 a0_3 a0_4 a0_5 a0_6 a0_7 a0_8 a0_9 l0_10 = some r) ∧ Aside0 (kq ≤ kj37) ∧ Aside0 (wc.heap[gb106]? = some (.cells #[.int .i64 a0_0, .int .i64 a0_1, .int .i64 a0_2, .int .i64 a0_3, .int .i64 a0_4, .int .i64 a0_5, .bool a0_6, .int .u32 a0_7, .bool a0_8, .int .i64 a0_9,(.slice A0_10 l0_10.length c0_10)] 31 (0,0))) ∧ Aside0 (Below w.heap.size w wc))
                case first =>
                 have H:=HC44.out
                 clear HC44
                 by_cases c46 : a0_4 < 0
                 ·rw [if_pos c46] at H
                  have c46b0 : decide (a0_4 < 0) = true:=decide_eq_true c46
                  clear c46
                  (first | rw [c46b0] | (simp only [i64_w,i32_w];rw [c46b0]) | skip)
                  have H':=Aside0.mk H
                  clear H
                  obtain ⟨hcz47_0,hcz47_1,hcz47_2,hcz47_3,hcz47_4,hcz47_5,hcz47_6,hcz47_7,hcz47_8,hcz47_9,hcz47_10⟩:=bc11 BK106.out
                  obtain ⟨hfz47_0,hfz47_1,hfz47_2,hfz47_3,hfz47_4,hfz47_5,hfz47_6,hfz47_7,hfz47_8,hfz47_9,hfz47_10⟩:=bf11 BK106.out
                  go_wp2
                  go_meet
                  case rel => exact ⟨_,(true),(by first | rfl | (simp;done) | (simp [*];done)),H',⟨by have:=HJ1.out;have:=HJ7.out;have:=HJ17.out;have:=HJ24.out;have:=HJ37.out;first | omega | exact Nat.le_refl _⟩,⟨by (with_reducible repeat (first | refine blk_drewN ?_ _ | refine blk_drew ?_ | refine blk_alloc ?_ _));exact BK106.out⟩,⟨by repeat (first | (with_reducible first | exact HB.out | apply below_alloc | apply pw_below_drewN | apply below_drew1 | refine below_set ?_ GE106.out) | exact HB.out)⟩⟩
                 ·rw [if_neg c46] at H
                  have c46b0 : decide (a0_4 < 0) = false:=decide_eq_false c46
                  clear c46
                  (first | rw [c46b0] | (simp only [i64_w,i32_w];rw [c46b0]) | skip)
                  by_cases c48 : a0_4 > 32767
                  ·rw [if_pos c48] at H
                   have c48b0 : decide (32767 < a0_4) = true:=decide_eq_true c48
                   clear c48
                   have H':=Aside0.mk H
                   clear H
                   obtain ⟨hcz49_0,hcz49_1,hcz49_2,hcz49_3,hcz49_4,hcz49_5,hcz49_6,hcz49_7,hcz49_8,hcz49_9,hcz49_10⟩:=bc11 BK106.out
                   obtain ⟨hfz49_0,hfz49_1,hfz49_2,hfz49_3,hfz49_4,hfz49_5,hfz49_6,hfz49_7,hfz49_8,hfz49_9,hfz49_10⟩:=bf11 BK106.out
                   go_wp2
                   go_meet
                   case rel => exact ⟨_,(true),(by first | rfl | (simp;done) | (simp [*];done)),H',⟨by have:=HJ1.out;have:=HJ7.out;have:=HJ17.out;have:=HJ24.out;have:=HJ37.out;first | omega | exact Nat.le_refl _⟩,⟨by (with_reducible repeat (first | refine blk_drewN ?_ _ | refine blk_drew ?_ | refine blk_alloc ?_ _));exact BK106.out⟩,⟨by repeat (first | (with_reducible first | exact HB.out | apply below_alloc | apply pw_below_drewN | apply below_drew1 | refine below_set ?_ GE106.out) | exact HB.out)⟩⟩
                  ·rw [if_neg c48] at H
                   have c48b0 : decide (32767 < a0_4) = false:=decide_eq_false c48
                   clear c48
                   by_cases c50 : a0_5 < 0
                   ·rw [if_pos c50] at H
                    have c50b0 : decide (a0_5 < 0) = true:=decide_eq_true c50
                    clear c50
                    have H':=Aside0.mk H
                    clear H
                    obtain ⟨hcz51_0,hcz51_1,hcz51_2,hcz51_3,hcz51_4,hcz51_5,hcz51_6,hcz51_7,hcz51_8,hcz51_9,hcz51_10⟩:=bc11 BK106.out
                    obtain ⟨hfz51_0,hfz51_1,hfz51_2,hfz51_3,hfz51_4,hfz51_5,hfz51_6,hfz51_7,hfz51_8,hfz51_9,hfz51_10⟩:=bf11 BK106.out
                    go_wp2
                    go_meet
                    case rel => exact ⟨_,(true),(by first | rfl | (simp;done) | (simp [*];done)),H',⟨by have:=HJ1.out;have:=HJ7.out;have:=HJ17.out;have:=HJ24.out;have:=HJ37.out;first | omega | exact Nat.le_refl _⟩,⟨by (with_reducible repeat (first | refine blk_drewN ?_ _ | refine blk_drew ?_ | refine blk_alloc ?_ _));exact BK106.out⟩,⟨by repeat (first | (with_reducible first | exact HB.out | apply below_alloc | apply pw_below_drewN | apply below_drew1 | refine below_set ?_ GE106.out) | exact HB.out)⟩⟩
                   ·rw [if_neg c50] at H
                    have c50b0 : decide (a0_5 < 0) = false:=decide_eq_false c50
                    clear c50
                    have H':=Aside0.mk H
                    clear H
                    obtain ⟨hcz52_0,hcz52_1,hcz52_2,hcz52_3,hcz52_4,hcz52_5,hcz52_6,hcz52_7,hcz52_8,hcz52_9,hcz52_10⟩:=bc11 BK106.out
                    obtain ⟨hfz52_0,hfz52_1,hfz52_2,hfz52_3,hfz52_4,hfz52_5,hfz52_6,hfz52_7,hfz52_8,hfz52_9,hfz52_10⟩:=bf11 BK106.out
                    go_wp2
                    go_meet
                    case rel => exact ⟨_,(decide (a0_5 > 32767)),(by first | rfl | (simp;done) | (simp [*];done)),H',⟨by have:=HJ1.out;have:=HJ7.out;have:=HJ17.out;have:=HJ24.out;have:=HJ37.out;first | omega | exact Nat.le_refl _⟩,⟨by (with_reducible repeat (first | refine blk_drewN ?_ _ | refine blk_drew ?_ | refine blk_alloc ?_ _));exact BK106.out⟩,⟨by repeat (first | (with_reducible first | exact HB.out | apply below_alloc | apply pw_below_drewN | apply below_drew1 | refine below_set ?_ GE106.out) | exact HB.out)⟩⟩
                case rest =>
                 clear HC44
                 try clear c2
                 try clear p2
                 try clear c3
                 try clear c4
                 try clear c5
                 try clear c21
                 try clear c21b0
                 try clear c24
                 try clear c26
                 try clear c26b0
                 try clear c28
                 try clear c28b0
                 try clear c30
                 try clear c30b0
                 try clear c32
                 try clear c32b0
                 try clear c34
                 try clear c34b0
                 try clear c34b1
                 try clear c37
                 try clear c39
                 try clear c39b0
                 try clear c39b1
                 try clear c42
                 try clear c42b0
                 try clear c42b1
                 try clear c42b2
                 try clear c46
                 try clear c46b0
                 try clear c48
                 try clear c48b0
                 try clear c50
                 try clear c50b0
                 try clear hcz10_0
                 try clear hcz10_1
                 try clear hcz10_10
                 try clear hcz10_2
                 try clear hcz10_3
                 try clear hcz10_4
                 try clear hcz10_5
                 try clear hcz10_6
                 try clear hcz10_7
                 try clear hcz10_8
                 try clear hcz10_9
                 try clear hcz12_0
                 try clear hcz12_1
                 try clear hcz12_10
                 try clear hcz12_2
                 try clear hcz12_3
                 try clear hcz12_4
                 try clear hcz12_5
                 try clear hcz12_6
                 try clear hcz12_7
                 try clear hcz12_8
                 try clear hcz12_9
                 try clear hcz14_0
                 try clear hcz14_1
                 try clear hcz14_10
                 try clear hcz14_2
                 try clear hcz14_3
                 try clear hcz14_4
                 try clear hcz14_5
                 try clear hcz14_6
                 try clear hcz14_7
                 try clear hcz14_8
                 try clear hcz14_9
                 try clear hcz15_0
                 try clear hcz15_1
                 try clear hcz15_10
                 try clear hcz15_2
                 try clear hcz15_3
                 try clear hcz15_4
                 try clear hcz15_5
                 try clear hcz15_6
                 try clear hcz15_7
                 try clear hcz15_8
                 try clear hcz15_9
                 try clear hcz19_0
                 try clear hcz19_1
                 try clear hcz19_10
                 try clear hcz19_2
                 try clear hcz19_3
                 try clear hcz19_4
                 try clear hcz19_5
                 try clear hcz19_6
                 try clear hcz19_7
                 try clear hcz19_8
                 try clear hcz19_9
                 try clear hcz22_0
                 try clear hcz22_1
                 try clear hcz22_10
                 try clear hcz22_2
                 try clear hcz22_3
                 try clear hcz22_4
                 try clear hcz22_5
                 try clear hcz22_6
                 try clear hcz22_7
                 try clear hcz22_8
                 try clear hcz22_9
                 try clear hcz23_0
                 try clear hcz23_1
                 try clear hcz23_10
                 try clear hcz23_2
                 try clear hcz23_3
                 try clear hcz23_4
                 try clear hcz23_5
                 try clear hcz23_6
                 try clear hcz23_7
                 try clear hcz23_8
                 try clear hcz23_9
                 try clear hcz27_0
                 try clear hcz27_1
                 try clear hcz27_10
                 try clear hcz27_2
                 try clear hcz27_3
                 try clear hcz27_4
                 try clear hcz27_5
                 try clear hcz27_6
                 try clear hcz27_7
                 try clear hcz27_8
                 try clear hcz27_9
                 try clear hcz29_0
                 try clear hcz29_1
                 try clear hcz29_10
                 try clear hcz29_2
                 try clear hcz29_3
                 try clear hcz29_4
                 try clear hcz29_5
                 try clear hcz29_6
                 try clear hcz29_7
                 try clear hcz29_8
                 try clear hcz29_9
                 try clear hcz31_0
                 try clear hcz31_1
                 try clear hcz31_10
                 try clear hcz31_2
                 try clear hcz31_3
                 try clear hcz31_4
                 try clear hcz31_5
                 try clear hcz31_6
                 try clear hcz31_7
                 try clear hcz31_8
                 try clear hcz31_9
                 try clear hcz33_0
                 try clear hcz33_1
                 try clear hcz33_10
                 try clear hcz33_2
                 try clear hcz33_3
                 try clear hcz33_4
                 try clear hcz33_5
                 try clear hcz33_6
                 try clear hcz33_7
                 try clear hcz33_8
                 try clear hcz33_9
                 try clear hcz35_0
                 try clear hcz35_1
                 try clear hcz35_10
                 try clear hcz35_2
                 try clear hcz35_3
                 try clear hcz35_4
                 try clear hcz35_5
                 try clear hcz35_6
                 try clear hcz35_7
                 try clear hcz35_8
                 try clear hcz35_9
                 try clear hcz36_0
                 try clear hcz36_1
                 try clear hcz36_10
                 try clear hcz36_2
                 try clear hcz36_3
                 try clear hcz36_4
                 try clear hcz36_5
                 try clear hcz36_6
                 try clear hcz36_7
                 try clear hcz36_8
                 try clear hcz36_9
                 try clear hcz40_0
                 try clear hcz40_1
                 try clear hcz40_10
                 try clear hcz40_2
                 try clear hcz40_3
                 try clear hcz40_4
                 try clear hcz40_5
                 try clear hcz40_6
                 try clear hcz40_7
                 try clear hcz40_8
                 try clear hcz40_9
                 try clear hcz41_0
                 try clear hcz41_1
                 try clear hcz41_10
                 try clear hcz41_2
                 try clear hcz41_3
                 try clear hcz41_4
                 try clear hcz41_5
                 try clear hcz41_6
                 try clear hcz41_7
                 try clear hcz41_8
                 try clear hcz41_9
                 try clear hcz43_0
                 try clear hcz43_1
                 try clear hcz43_10
                 try clear hcz43_2
                 try clear hcz43_3
                 try clear hcz43_4
                 try clear hcz43_5
                 try clear hcz43_6
                 try clear hcz43_7
                 try clear hcz43_8
                 try clear hcz43_9
                 try clear hcz45_0
                 try clear hcz45_1
                 try clear hcz45_10
                 try clear hcz45_2
                 try clear hcz45_3
                 try clear hcz45_4
                 try clear hcz45_5
                 try clear hcz45_6
                 try clear hcz45_7
                 try clear hcz45_8
                 try clear hcz45_9
                 try clear hcz47_0
                 try clear hcz47_1
                 try clear hcz47_10
                 try clear hcz47_2
                 try clear hcz47_3
                 try clear hcz47_4
                 try clear hcz47_5
                 try clear hcz47_6
                 try clear hcz47_7
                 try clear hcz47_8
                 try clear hcz47_9
                 try clear hcz49_0
                 try clear hcz49_1
                 try clear hcz49_10
                 try clear hcz49_2
                 try clear hcz49_3
                 try clear hcz49_4
                 try clear hcz49_5
                 try clear hcz49_6
                 try clear hcz49_7
                 try clear hcz49_8
                 try clear hcz49_9
                 try clear hcz51_0
                 try clear hcz51_1
                 try clear hcz51_10
                 try clear hcz51_2
                 try clear hcz51_3
                 try clear hcz51_4
                 try clear hcz51_5
                 try clear hcz51_6
                 try clear hcz51_7
                 try clear hcz51_8
                 try clear hcz51_9
                 try clear hcz52_0
                 try clear hcz52_1
                 try clear hcz52_10
                 try clear hcz52_2
                 try clear hcz52_3
                 try clear hcz52_4
                 try clear hcz52_5
                 try clear hcz52_6
                 try clear hcz52_7
                 try clear hcz52_8
                 try clear hcz52_9
                 try clear hcz5_0
                 try clear hcz5_1
                 try clear hcz5_10
                 try clear hcz5_2
                 try clear hcz5_3
                 try clear hcz5_4
                 try clear hcz5_5
                 try clear hcz5_6
                 try clear hcz5_7
                 try clear hcz5_8
                 try clear hcz5_9
                 try clear hcz6_0
                 try clear hcz6_1
                 try clear hcz6_10
                 try clear hcz6_2
                 try clear hcz6_3
                 try clear hcz6_4
                 try clear hcz6_5
                 try clear hcz6_6
                 try clear hcz6_7
                 try clear hcz6_8
                 try clear hcz6_9
                 try clear hfz10_0
                 try clear hfz10_1
                 try clear hfz10_10
                 try clear hfz10_2
                 try clear hfz10_3
                 try clear hfz10_4
                 try clear hfz10_5
                 try clear hfz10_6
                 try clear hfz10_7
                 try clear hfz10_8
                 try clear hfz10_9
                 try clear hfz12_0
                 try clear hfz12_1
                 try clear hfz12_10
                 try clear hfz12_2
                 try clear hfz12_3
                 try clear hfz12_4
                 try clear hfz12_5
                 try clear hfz12_6
                 try clear hfz12_7
                 try clear hfz12_8
                 try clear hfz12_9
                 try clear hfz14_0
                 try clear hfz14_1
                 try clear hfz14_10
                 try clear hfz14_2
                 try clear hfz14_3
                 try clear hfz14_4
                 try clear hfz14_5
                 try clear hfz14_6
                 try clear hfz14_7
                 try clear hfz14_8
                 try clear hfz14_9
                 try clear hfz15_0
                 try clear hfz15_1
                 try clear hfz15_10
                 try clear hfz15_2
                 try clear hfz15_3
                 try clear hfz15_4
                 try clear hfz15_5
                 try clear hfz15_6
                 try clear hfz15_7
                 try clear hfz15_8
                 try clear hfz15_9
                 try clear hfz19_0
                 try clear hfz19_1
                 try clear hfz19_10
                 try clear hfz19_2
                 try clear hfz19_3
                 try clear hfz19_4
                 try clear hfz19_5
                 try clear hfz19_6
                 try clear hfz19_7
                 try clear hfz19_8
                 try clear hfz19_9
                 try clear hfz22_0
                 try clear hfz22_1
                 try clear hfz22_10
                 try clear hfz22_2
                 try clear hfz22_3
                 try clear hfz22_4
                 try clear hfz22_5
                 try clear hfz22_6
                 try clear hfz22_7
                 try clear hfz22_8
                 try clear hfz22_9
                 try clear hfz23_0
                 try clear hfz23_1
                 try clear hfz23_10
                 try clear hfz23_2
                 try clear hfz23_3
                 try clear hfz23_4
                 try clear hfz23_5
                 try clear hfz23_6
                 try clear hfz23_7
                 try clear hfz23_8
                 try clear hfz23_9
                 try clear hfz27_0
                 try clear hfz27_1
                 try clear hfz27_10
                 try clear hfz27_2
                 try clear hfz27_3
                 try clear hfz27_4
                 try clear hfz27_5
                 try clear hfz27_6
                 try clear hfz27_7
                 try clear hfz27_8
                 try clear hfz27_9
                 try clear hfz29_0
                 try clear hfz29_1
                 try clear hfz29_10
                 try clear hfz29_2
                 try clear hfz29_3
                 try clear hfz29_4
                 try clear hfz29_5
                 try clear hfz29_6
                 try clear hfz29_7
                 try clear hfz29_8
                 try clear hfz29_9
                 try clear hfz31_0
                 try clear hfz31_1
                 try clear hfz31_10
                 try clear hfz31_2
                 try clear hfz31_3
                 try clear hfz31_4
                 try clear hfz31_5
                 try clear hfz31_6
                 try clear hfz31_7
                 try clear hfz31_8
                 try clear hfz31_9
                 try clear hfz33_0
                 try clear hfz33_1
                 try clear hfz33_10
                 try clear hfz33_2
                 try clear hfz33_3
                 try clear hfz33_4
                 try clear hfz33_5
                 try clear hfz33_6
                 try clear hfz33_7
                 try clear hfz33_8
                 try clear hfz33_9
                 try clear hfz35_0
                 try clear hfz35_1
                 try clear hfz35_10
                 try clear hfz35_2
                 try clear hfz35_3
                 try clear hfz35_4
                 try clear hfz35_5
                 try clear hfz35_6
                 try clear hfz35_7
                 try clear hfz35_8
                 try clear hfz35_9
                 try clear hfz36_0
                 try clear hfz36_1
                 try clear hfz36_10
                 try clear hfz36_2
                 try clear hfz36_3
                 try clear hfz36_4
                 try clear hfz36_5
                 try clear hfz36_6
                 try clear hfz36_7
                 try clear hfz36_8
                 try clear hfz36_9
                 try clear hfz40_0
                 try clear hfz40_1
                 try clear hfz40_10
                 try clear hfz40_2
                 try clear hfz40_3
                 try clear hfz40_4
                 try clear hfz40_5
                 try clear hfz40_6
                 try clear hfz40_7
                 try clear hfz40_8
                 try clear hfz40_9
                 try clear hfz41_0
                 try clear hfz41_1
                 try clear hfz41_10
                 try clear hfz41_2
                 try clear hfz41_3
                 try clear hfz41_4
                 try clear hfz41_5
                 try clear hfz41_6
                 try clear hfz41_7
                 try clear hfz41_8
                 try clear hfz41_9
                 try clear hfz43_0
                 try clear hfz43_1
                 try clear hfz43_10
                 try clear hfz43_2
                 try clear hfz43_3
                 try clear hfz43_4
                 try clear hfz43_5
                 try clear hfz43_6
                 try clear hfz43_7
                 try clear hfz43_8
                 try clear hfz43_9
                 try clear hfz45_0
                 try clear hfz45_1
                 try clear hfz45_10
                 try clear hfz45_2
                 try clear hfz45_3
                 try clear hfz45_4
                 try clear hfz45_5
                 try clear hfz45_6
                 try clear hfz45_7
                 try clear hfz45_8
                 try clear hfz45_9
                 try clear hfz47_0
                 try clear hfz47_1
                 try clear hfz47_10
                 try clear hfz47_2
                 try clear hfz47_3
                 try clear hfz47_4
                 try clear hfz47_5
                 try clear hfz47_6
                 try clear hfz47_7
                 try clear hfz47_8
                 try clear hfz47_9
                 try clear hfz49_0
                 try clear hfz49_1
                 try clear hfz49_10
                 try clear hfz49_2
                 try clear hfz49_3
                 try clear hfz49_4
                 try clear hfz49_5
                 try clear hfz49_6
                 try clear hfz49_7
                 try clear hfz49_8
                 try clear hfz49_9
                 try clear hfz51_0
                 try clear hfz51_1
                 try clear hfz51_10
                 try clear hfz51_2
                 try clear hfz51_3
                 try clear hfz51_4
                 try clear hfz51_5
                 try clear hfz51_6
                 try clear hfz51_7
                 try clear hfz51_8
                 try clear hfz51_9
                 try clear hfz52_0
                 try clear hfz52_1
                 try clear hfz52_10
                 try clear hfz52_2
                 try clear hfz52_3
                 try clear hfz52_4
                 try clear hfz52_5
                 try clear hfz52_6
                 try clear hfz52_7
                 try clear hfz52_8
                 try clear hfz52_9
                 try clear hfz5_0
                 try clear hfz5_1
                 try clear hfz5_10
                 try clear hfz5_2
                 try clear hfz5_3
                 try clear hfz5_4
                 try clear hfz5_5
                 try clear hfz5_6
                 try clear hfz5_7
                 try clear hfz5_8
                 try clear hfz5_9
                 try clear hfz6_0
                 try clear hfz6_1
                 try clear hfz6_10
                 try clear hfz6_2
                 try clear hfz6_3
                 try clear hfz6_4
                 try clear hfz6_5
                 try clear hfz6_6
                 try clear hfz6_7
                 try clear hfz6_8
                 try clear hfz6_9
                 try clear p2
                 obtain ⟨kq,x108_43,rfl,HA,HJ43,BK106,HB⟩:=hcut
                 cases kq with
                 | zero => exact absurd HA.out (by simp [spec_l2sound.j5])
                 | succ kj43 =>
                  have H:=HA.out
                  clear HA
                  simp only [spec_l2sound.j5] at H
                  by_cases c53 : x108_43 = true
                  ·subst c53
                   have H1 : (some false) = some r:=by rw [if_pos rfl] at H;exact H
                   clear H
                   have H:=H1
                   clear H1
                   obtain rfl:=Option.some.inj H
                   go_wp2
                   go_ret
                   exact ⟨by first | rfl | (simp [errW_none,errW_some] <;> rfl) | (simp [*,errW_none,errW_some] <;> rfl),by repeat (first | (with_reducible first | exact HB.out | apply below_alloc | apply pw_below_drewN | apply below_drew1 | refine below_set ?_ GE106.out) | exact HB.out)⟩
                  ·replace c53:=Bool.eq_false_iff.mpr c53
                   subst c53
                   have H1 : (if a0_0 = 9 then (if a0_8 = true then (some false) else (if a0_9 = 0 then (some false) else (if (l0_10.length : Int) = (wrap64 (Int.tdiv (wrap64 ((wrap64 (t107 - a0_1)) + 7)) 8)) then (some true) else (some false)))) else (some true)) = some r:=by rw [if_neg (show ¬ (false = true) by decide)] at H;exact H
                   clear H
                   have H:=H1
                   clear H1
                   by_cases c54 : a0_0 = 9
                   ·rw [if_pos c54] at H
                    have c54b0 : (a0_0 == 9) = true:=beq_iff_eq.mpr c54
                    have c54b1 : (a0_0 != 9) = false:=bne_eq_false_iff_eq.mpr c54
                    clear c54
                    by_cases c55 : a0_8 = true
                    ·subst c55
                     have H1 : (some false) = some r:=by rw [if_pos rfl] at H;exact H
                     clear H
                     have H:=H1
                     clear H1
                     obtain rfl:=Option.some.inj H
                     obtain ⟨hcz56_0,hcz56_1,hcz56_2,hcz56_3,hcz56_4,hcz56_5,hcz56_6,hcz56_7,hcz56_8,hcz56_9,hcz56_10⟩:=bc11 BK106.out
                     obtain ⟨hfz56_0,hfz56_1,hfz56_2,hfz56_3,hfz56_4,hfz56_5,hfz56_6,hfz56_7,hfz56_8,hfz56_9,hfz56_10⟩:=bf11 BK106.out
                     go_wp2
                     go_ret
                     exact ⟨by first | rfl | (simp [errW_none,errW_some] <;> rfl) | (simp [*,errW_none,errW_some] <;> rfl),by repeat (first | (with_reducible first | exact HB.out | apply below_alloc | apply pw_below_drewN | apply below_drew1 | refine below_set ?_ GE106.out) | exact HB.out)⟩
                    ·replace c55:=Bool.eq_false_iff.mpr c55
                     subst c55
                     have H1 : (if a0_9 = 0 then (some false) else (if (l0_10.length : Int) = (wrap64 (Int.tdiv (wrap64 ((wrap64 (t107 - a0_1)) + 7)) 8)) then (some true) else (some false))) = some r:=by rw [if_neg (show ¬ (false = true) by decide)] at H;exact H
                     clear H
                     have H:=H1
                     clear H1
                     by_cases c57 : a0_9 = 0
                     ·rw [if_pos c57] at H
                      have c57b0 : (a0_9 == 0) = true:=beq_iff_eq.mpr c57
                      have c57b1 : (a0_9 != 0) = false:=bne_eq_false_iff_eq.mpr c57
                      clear c57
                      obtain rfl:=Option.some.inj H
                      obtain ⟨hcz58_0,hcz58_1,hcz58_2,hcz58_3,hcz58_4,hcz58_5,hcz58_6,hcz58_7,hcz58_8,hcz58_9,hcz58_10⟩:=bc11 BK106.out
                      obtain ⟨hfz58_0,hfz58_1,hfz58_2,hfz58_3,hfz58_4,hfz58_5,hfz58_6,hfz58_7,hfz58_8,hfz58_9,hfz58_10⟩:=bf11 BK106.out
                      go_wp2
                      go_ret
                      exact ⟨by first | rfl | (simp [errW_none,errW_some] <;> rfl) | (simp [*,errW_none,errW_some] <;> rfl),by repeat (first | (with_reducible first | exact HB.out | apply below_alloc | apply pw_below_drewN | apply below_drew1 | refine below_set ?_ GE106.out) | exact HB.out)⟩
                     ·rw [if_neg c57] at H
                      have c57b0 : (a0_9 == 0) = false:=beq_eq_false_iff_ne.mpr c57
                      have c57b1 : (a0_9 != 0) = true:=bne_iff_ne.mpr c57
                      by_cases c59 : (l0_10.length : Int) = (wrap64 (Int.tdiv (wrap64 ((wrap64 (t107 - a0_1)) + 7)) 8))
                      ·rw [if_pos c59] at H
                       have c59b0 : ((l0_10.length : Int) == (wrap64 (Int.tdiv (wrap64 ((wrap64 (t107 - a0_1)) + 7)) 8))) = true:=beq_iff_eq.mpr c59
                       have c59b1 : ((l0_10.length : Int) != (wrap64 (Int.tdiv (wrap64 ((wrap64 (t107 - a0_1)) + 7)) 8))) = false:=bne_eq_false_iff_eq.mpr c59
                       clear c59
                       obtain rfl:=Option.some.inj H
                       obtain ⟨hcz60_0,hcz60_1,hcz60_2,hcz60_3,hcz60_4,hcz60_5,hcz60_6,hcz60_7,hcz60_8,hcz60_9,hcz60_10⟩:=bc11 BK106.out
                       obtain ⟨hfz60_0,hfz60_1,hfz60_2,hfz60_3,hfz60_4,hfz60_5,hfz60_6,hfz60_7,hfz60_8,hfz60_9,hfz60_10⟩:=bf11 BK106.out
                       go_wp2
                       go_ret
                       exact ⟨by first | rfl | (simp [errW_none,errW_some] <;> rfl) | (simp [*,errW_none,errW_some] <;> rfl),by repeat (first | (with_reducible first | exact HB.out | apply below_alloc | apply pw_below_drewN | apply below_drew1 | refine below_set ?_ GE106.out) | exact HB.out)⟩
                      ·rw [if_neg c59] at H
                       have c59b0 : ((l0_10.length : Int) == (wrap64 (Int.tdiv (wrap64 ((wrap64 (t107 - a0_1)) + 7)) 8))) = false:=beq_eq_false_iff_ne.mpr c59
                       have c59b1 : ((l0_10.length : Int) != (wrap64 (Int.tdiv (wrap64 ((wrap64 (t107 - a0_1)) + 7)) 8))) = true:=bne_iff_ne.mpr c59
                       obtain rfl:=Option.some.inj H
                       obtain ⟨hcz61_0,hcz61_1,hcz61_2,hcz61_3,hcz61_4,hcz61_5,hcz61_6,hcz61_7,hcz61_8,hcz61_9,hcz61_10⟩:=bc11 BK106.out
                       obtain ⟨hfz61_0,hfz61_1,hfz61_2,hfz61_3,hfz61_4,hfz61_5,hfz61_6,hfz61_7,hfz61_8,hfz61_9,hfz61_10⟩:=bf11 BK106.out
                       go_wp2
                       go_ret
                       exact ⟨by first | rfl | (simp [errW_none,errW_some] <;> rfl) | (simp [*,errW_none,errW_some] <;> rfl),by repeat (first | (with_reducible first | exact HB.out | apply below_alloc | apply pw_below_drewN | apply below_drew1 | refine below_set ?_ GE106.out) | exact HB.out)⟩
                   ·rw [if_neg c54] at H
                    have c54b0 : (a0_0 == 9) = false:=beq_eq_false_iff_ne.mpr c54
                    have c54b1 : (a0_0 != 9) = true:=bne_iff_ne.mpr c54
                    obtain rfl:=Option.some.inj H
                    obtain ⟨hcz62_0,hcz62_1,hcz62_2,hcz62_3,hcz62_4,hcz62_5,hcz62_6,hcz62_7,hcz62_8,hcz62_9,hcz62_10⟩:=bc11 BK106.out
                    obtain ⟨hfz62_0,hfz62_1,hfz62_2,hfz62_3,hfz62_4,hfz62_5,hfz62_6,hfz62_7,hfz62_8,hfz62_9,hfz62_10⟩:=bf11 BK106.out
                    go_wp2
                    go_ret
                    exact ⟨by first | rfl | (simp [errW_none,errW_some] <;> rfl) | (simp [*,errW_none,errW_some] <;> rfl),by repeat (first | (with_reducible first | exact HB.out | apply below_alloc | apply pw_below_drewN | apply below_drew1 | refine below_set ?_ GE106.out) | exact HB.out)⟩
end Go.Proofs.YtdoclpgciadjaaaDoor.P
