/- Texts of the proof of FnExactSpans, joined. -/
import Derived.Test.YtdoclpgciadjaaaSFnExactSpans21
import Derived.Test.YtdoclpgciadjaaaSFnExactSpans23
import Derived.Test.YtdoclpgciadjaaaSFnExactSpans20
import Derived.Deep.QuietTactic
import Derived.BigQuiet
import Derived.ArgAppend
import Derived.Test.YtdoclpgciadjaaaSFnExactSpans4
import Derived.Laws.BitsAllLaws
import Derived.Laws.BitsLemmas
import Derived.Lib.Strings
import Derived.Lib.SmallJoins
import Derived.Test.YtdoclpgciadjaaaSFnExactSpans22
namespace Go.Proofs.Ytdoclpgciadjaaa.P
open Go.RowKit Go.Proofs.YtdoclpgciadjaaaW.PrintWords Go.Proofs.YtdoclpgciadjaaaW.PrintLast Go.Proofs.YtdoclpgciadjaaaW.PrintMore
set_option linter.unusedVariables false
set_option linter.unusedSimpArgs false
mutual
def spec_ValidFrame.j0 : Nat → Bool → Bool → Int → Bool → Int → List Int → Option (Bool)
 | 0,_,_,_,_,_,_ => none
 | k + 1,x9,x172000,x172001,x172002,x172003,x172004 => if x9 = true then (some false) else (if x172000 = true then (spec_ValidFrame.j1 k false x172000 x172001 x172002 x172003 x172004) else (spec_ValidFrame.j1 k (decide (x172001 ≥ 2048)) x172000 x172001 x172002 x172003 x172004))
def spec_ValidFrame.j1 : Nat → Bool → Bool → Int → Bool → Int → List Int → Option (Bool)
 | 0,_,_,_,_,_,_ => none
 | k + 1,x17,x172000,x172001,x172002,x172003,x172004 => if x17 = true then (some false) else (if x172003 < 0 then (some false) else (if x172003 > 15 then (some false) else ((spec_l1dataLen.f x172000 x172001 x172002 x172003 x172004).bind fun t172 => (some ((x172004.length : Int) == t172)))))
end
def spec_ValidFrame.f (k : Nat) (a0_0 : Bool) (a0_1 : Int) (a0_2 : Bool) (a0_3 : Int) (l0_4 : List Int) : Option (Bool):=if a0_0 = true then (spec_ValidFrame.j0 k (decide (a0_1 ≥ 536870912)) a0_0 a0_1 a0_2 a0_3 l0_4) else (spec_ValidFrame.j0 k false a0_0 a0_1 a0_2 a0_3 l0_4)
set_option maxHeartbeats 8000000 in
set_option maxRecDepth 100000 in
theorem spec_ValidFrame.calls (k : Nat) (a0_0 : Bool) (a0_1 : Int) (a0_2 : Bool) (a0_3 : Int) (A0_4 : Option Addr) (c0_4 : Nat) (l0_4 : List Int) (r : Bool) (w : World) (hr0_4 : Kd.C (Kd.int .u8) w A0_4 l0_4.length l0_4) (hc0_4 : l0_4.length ≤ c0_4) (h : spec_ValidFrame.f k a0_0 a0_1 a0_2 a0_3 l0_4 = some r) :
  Calls Try.prog 14 #[.agg #[.bool a0_0, .int .u32 a0_1, .bool a0_2, .int .i64 a0_3, .slice A0_4 l0_4.length c0_4]] w fun e w' => e = .returned (.bool r) ∧ Below w.heap.size w w':=by
 have hu25:=Try.underlying25
 have HR0_4:=Aside0.mk hr0_4
 have HC0_4:=Aside0.mk hc0_4
 clear hr0_4 hc0_4
 have HB:=Aside0.mk (Below.refl w.heap.size w)
 have H : (if a0_0 = true then (spec_ValidFrame.j0 k (decide (a0_1 ≥ 536870912)) a0_0 a0_1 a0_2 a0_3 l0_4) else (spec_ValidFrame.j0 k false a0_0 a0_1 a0_2 a0_3 l0_4)) = some r:=h
 clear h
 have HC2:=Aside0.mk H
 clear H
 go_enter Try.func14,Try.ntmps14
 go_upto_region 1 with (first | ((with_reducible refine gate_dst (N:=1) rfl ?_);refine box_event ?hg (N:=1) ?hd (cs := #[.bool a0_0, .int .u32 a0_1, .bool a0_2, .int .i64 a0_3, .slice A0_4 l0_4.length c0_4]) (t:=25) ?hr ?_;(case hd => rfl);(case hg => rfl);(case hr => first | (go_simp;done) | (go_simp;rfl));intro gb171 hg w3 hbox hb;have n0_:=Aside0.mk (below_step (by repeat (first | (with_reducible first | exact HB.out | apply below_alloc | apply pw_below_drewN | apply below_drew1) | exact HB.out)) hb);have n1_:=Aside0.mk (hbox);have n2_:=Aside0.mk ((by rw [hg];exact (below_size (by repeat (first | (with_reducible first | exact HB.out | apply below_alloc | apply pw_below_drewN | apply below_drew1) | exact HB.out))) : w.heap.size ≤ gb171));have n3_:=Aside0.mk ((by rw [hg];exact (below_size (by repeat (first | (with_reducible first | exact HB.out | apply below_alloc | apply pw_below_drewN | apply below_drew1) | exact HB.out))) : w.heap.size ≤ gb171));clear HB;have HB:=n0_;have BK171:=n1_;have GW171:=n2_;have GE171:=n3_;clear n0_ n1_ n2_ n3_;clear hb hbox hg))
 (try simp only [Act.put,List.setIfInBounds_toArray,List.set_cons_zero,List.set_cons_succ])
 go_cut [9] (fun v9 wc => ∃ (kq : Nat) (x9_1 : Bool),v9 = .bool x9_1 ∧ Aside0 (spec_ValidFrame.j0 kq x9_1 a0_0 a0_1 a0_2 a0_3 l0_4 = some r) ∧ Aside0 (kq ≤ k) ∧ Aside0 (wc.heap[gb171]? = some (.cells #[.bool a0_0, .int .u32 a0_1, .bool a0_2, .int .i64 a0_3,(.slice A0_4 l0_4.length c0_4)] 25 (0,0))) ∧ Aside0 (Below w.heap.size w wc))
 case first =>
  have H:=HC2.out
  clear HC2
  by_cases c4 : a0_0 = true
  ·subst c4
   have H1 : (spec_ValidFrame.j0 k (decide (a0_1 ≥ 536870912)) true a0_1 a0_2 a0_3 l0_4) = some r:=by rw [if_pos rfl] at H;exact H
   clear H
   have H:=H1
   clear H1
   have H':=Aside0.mk H
   clear H
   have hcz5_0 : w3.cell? ⟨gb171,0,none⟩ = some (.bool true):=(blk_cell BK171.out 0).trans rfl
   have hcz5_1 : w3.cell? ⟨gb171,1,none⟩ = some (.int .u32 a0_1):=(blk_cell BK171.out 1).trans rfl
   have hcz5_2 : w3.cell? ⟨gb171,2,none⟩ = some (.bool a0_2):=(blk_cell BK171.out 2).trans rfl
   have hcz5_3 : w3.cell? ⟨gb171,3,none⟩ = some (.int .i64 a0_3):=(blk_cell BK171.out 3).trans rfl
   have hcz5_4 : w3.cell? ⟨gb171,4,none⟩ = some (.slice A0_4 l0_4.length c0_4):=(blk_cell BK171.out 4).trans rfl
   have hfz5_0:=blk_frozen BK171.out 0
   have hfz5_1:=blk_frozen BK171.out 1
   have hfz5_2:=blk_frozen BK171.out 2
   have hfz5_3:=blk_frozen BK171.out 3
   have hfz5_4:=blk_frozen BK171.out 4
   go_wp2
   go_meet
   case rel => exact ⟨_,(decide (a0_1 ≥ 536870912)),(by first | rfl | (simp;done) | (simp [*];done)),H',⟨by first | omega | exact Nat.le_refl _⟩,⟨by (with_reducible repeat (first | refine blk_drewN ?_ _ | refine blk_drew ?_ | refine blk_alloc ?_ _));exact BK171.out⟩,⟨by repeat (first | (with_reducible first | exact HB.out | apply below_alloc | apply pw_below_drewN | apply below_drew1 | refine below_set ?_ GE171.out) | exact HB.out)⟩⟩
  ·replace c4:=Bool.eq_false_iff.mpr c4
   subst c4
   have H1 : (spec_ValidFrame.j0 k false false a0_1 a0_2 a0_3 l0_4) = some r:=by rw [if_neg (show ¬ (false = true) by decide)] at H;exact H
   clear H
   have H:=H1
   clear H1
   have H':=Aside0.mk H
   clear H
   have hcz6_0 : w3.cell? ⟨gb171,0,none⟩ = some (.bool false):=(blk_cell BK171.out 0).trans rfl
   have hcz6_1 : w3.cell? ⟨gb171,1,none⟩ = some (.int .u32 a0_1):=(blk_cell BK171.out 1).trans rfl
   have hcz6_2 : w3.cell? ⟨gb171,2,none⟩ = some (.bool a0_2):=(blk_cell BK171.out 2).trans rfl
   have hcz6_3 : w3.cell? ⟨gb171,3,none⟩ = some (.int .i64 a0_3):=(blk_cell BK171.out 3).trans rfl
   have hcz6_4 : w3.cell? ⟨gb171,4,none⟩ = some (.slice A0_4 l0_4.length c0_4):=(blk_cell BK171.out 4).trans rfl
   have hfz6_0:=blk_frozen BK171.out 0
   have hfz6_1:=blk_frozen BK171.out 1
   have hfz6_2:=blk_frozen BK171.out 2
   have hfz6_3:=blk_frozen BK171.out 3
   have hfz6_4:=blk_frozen BK171.out 4
   go_wp2
   go_meet
   case rel => exact ⟨_,(false),(by first | rfl | (simp;done) | (simp [*];done)),H',⟨by first | omega | exact Nat.le_refl _⟩,⟨by (with_reducible repeat (first | refine blk_drewN ?_ _ | refine blk_drew ?_ | refine blk_alloc ?_ _));exact BK171.out⟩,⟨by repeat (first | (with_reducible first | exact HB.out | apply below_alloc | apply pw_below_drewN | apply below_drew1 | refine below_set ?_ GE171.out) | exact HB.out)⟩⟩
 case rest =>
  clear HC2
  try clear c1
  try clear p2
  try clear c4
  try clear hcz5_0
  try clear hcz5_1
  try clear hcz5_2
  try clear hcz5_3
  try clear hcz5_4
  try clear hcz6_0
  try clear hcz6_1
  try clear hcz6_2
  try clear hcz6_3
  try clear hcz6_4
  try clear hfz5_0
  try clear hfz5_1
  try clear hfz5_2
  try clear hfz5_3
  try clear hfz5_4
  try clear hfz6_0
  try clear hfz6_1
  try clear hfz6_2
  try clear hfz6_3
  try clear hfz6_4
  obtain ⟨kq,x9_1,rfl,HA,HJ1,BK171,HB⟩:=hcut
  cases kq with
  | zero => exact absurd HA.out (by simp [spec_ValidFrame.j0])
  | succ kj1 =>
   have H:=HA.out
   clear HA
   simp only [spec_ValidFrame.j0] at H
   by_cases c7 : x9_1 = true
   ·subst c7
    have H1 : (some false) = some r:=by rw [if_pos rfl] at H;exact H
    clear H
    have H:=H1
    clear H1
    obtain rfl:=Option.some.inj H
    go_wp2
    go_ret
    exact ⟨by first | rfl | (simp [errW_none,errW_some] <;> rfl) | (simp [*,errW_none,errW_some] <;> rfl),by repeat (first | (with_reducible first | exact HB.out | apply below_alloc | apply pw_below_drewN | apply below_drew1 | refine below_set ?_ GE171.out) | exact HB.out)⟩
   ·replace c7:=Bool.eq_false_iff.mpr c7
    subst c7
    have H1 : (if a0_0 = true then (spec_ValidFrame.j1 kj1 false a0_0 a0_1 a0_2 a0_3 l0_4) else (spec_ValidFrame.j1 kj1 (decide (a0_1 ≥ 2048)) a0_0 a0_1 a0_2 a0_3 l0_4)) = some r:=by rw [if_neg (show ¬ (false = true) by decide)] at H;exact H
    clear H
    have H:=H1
    clear H1
    have HC8:=Aside0.mk H
    clear H
    go_upto_region 3 with (fail)
    go_cut [17] (fun v17 wc => ∃ (kq : Nat) (x17_7 : Bool),v17 = .bool x17_7 ∧ Aside0 (spec_ValidFrame.j1 kq x17_7 a0_0 a0_1 a0_2 a0_3 l0_4 = some r) ∧ Aside0 (kq ≤ kj1) ∧ Aside0 (wc.heap[gb171]? = some (.cells #[.bool a0_0, .int .u32 a0_1, .bool a0_2, .int .i64 a0_3,(.slice A0_4 l0_4.length c0_4)] 25 (0,0))) ∧ Aside0 (Below w.heap.size w wc))
    case first =>
     have H:=HC8.out
     clear HC8
     by_cases c9 : a0_0 = true
     ·subst c9
      have H1 : (spec_ValidFrame.j1 kj1 false true a0_1 a0_2 a0_3 l0_4) = some r:=by rw [if_pos rfl] at H;exact H
      clear H
      have H:=H1
      clear H1
      have H':=Aside0.mk H
      clear H
      have hcz10_0 : wc.cell? ⟨gb171,0,none⟩ = some (.bool true):=(blk_cell BK171.out 0).trans rfl
      have hcz10_1 : wc.cell? ⟨gb171,1,none⟩ = some (.int .u32 a0_1):=(blk_cell BK171.out 1).trans rfl
      have hcz10_2 : wc.cell? ⟨gb171,2,none⟩ = some (.bool a0_2):=(blk_cell BK171.out 2).trans rfl
      have hcz10_3 : wc.cell? ⟨gb171,3,none⟩ = some (.int .i64 a0_3):=(blk_cell BK171.out 3).trans rfl
      have hcz10_4 : wc.cell? ⟨gb171,4,none⟩ = some (.slice A0_4 l0_4.length c0_4):=(blk_cell BK171.out 4).trans rfl
      have hfz10_0:=blk_frozen BK171.out 0
      have hfz10_1:=blk_frozen BK171.out 1
      have hfz10_2:=blk_frozen BK171.out 2
      have hfz10_3:=blk_frozen BK171.out 3
      have hfz10_4:=blk_frozen BK171.out 4
      go_wp2
      go_meet
      case rel => exact ⟨_,(false),(by first | rfl | (simp;done) | (simp [*];done)),H',⟨by have:=HJ1.out;first | omega | exact Nat.le_refl _⟩,⟨by (with_reducible repeat (first | refine blk_drewN ?_ _ | refine blk_drew ?_ | refine blk_alloc ?_ _));exact BK171.out⟩,⟨by repeat (first | (with_reducible first | exact HB.out | apply below_alloc | apply pw_below_drewN | apply below_drew1 | refine below_set ?_ GE171.out) | exact HB.out)⟩⟩
     ·replace c9:=Bool.eq_false_iff.mpr c9
      subst c9
      have H1 : (spec_ValidFrame.j1 kj1 (decide (a0_1 ≥ 2048)) false a0_1 a0_2 a0_3 l0_4) = some r:=by rw [if_neg (show ¬ (false = true) by decide)] at H;exact H
      clear H
      have H:=H1
      clear H1
      have H':=Aside0.mk H
      clear H
      have hcz11_0 : wc.cell? ⟨gb171,0,none⟩ = some (.bool false):=(blk_cell BK171.out 0).trans rfl
      have hcz11_1 : wc.cell? ⟨gb171,1,none⟩ = some (.int .u32 a0_1):=(blk_cell BK171.out 1).trans rfl
      have hcz11_2 : wc.cell? ⟨gb171,2,none⟩ = some (.bool a0_2):=(blk_cell BK171.out 2).trans rfl
      have hcz11_3 : wc.cell? ⟨gb171,3,none⟩ = some (.int .i64 a0_3):=(blk_cell BK171.out 3).trans rfl
      have hcz11_4 : wc.cell? ⟨gb171,4,none⟩ = some (.slice A0_4 l0_4.length c0_4):=(blk_cell BK171.out 4).trans rfl
      have hfz11_0:=blk_frozen BK171.out 0
      have hfz11_1:=blk_frozen BK171.out 1
      have hfz11_2:=blk_frozen BK171.out 2
      have hfz11_3:=blk_frozen BK171.out 3
      have hfz11_4:=blk_frozen BK171.out 4
      go_wp2
      go_meet
      case rel => exact ⟨_,(decide (a0_1 ≥ 2048)),(by first | rfl | (simp;done) | (simp [*];done)),H',⟨by have:=HJ1.out;first | omega | exact Nat.le_refl _⟩,⟨by (with_reducible repeat (first | refine blk_drewN ?_ _ | refine blk_drew ?_ | refine blk_alloc ?_ _));exact BK171.out⟩,⟨by repeat (first | (with_reducible first | exact HB.out | apply below_alloc | apply pw_below_drewN | apply below_drew1 | refine below_set ?_ GE171.out) | exact HB.out)⟩⟩
    case rest =>
     clear HC8
     try clear c1
     try clear p2
     try clear c4
     try clear c7
     try clear c9
     try clear hcz10_0
     try clear hcz10_1
     try clear hcz10_2
     try clear hcz10_3
     try clear hcz10_4
     try clear hcz11_0
     try clear hcz11_1
     try clear hcz11_2
     try clear hcz11_3
     try clear hcz11_4
     try clear hcz5_0
     try clear hcz5_1
     try clear hcz5_2
     try clear hcz5_3
     try clear hcz5_4
     try clear hcz6_0
     try clear hcz6_1
     try clear hcz6_2
     try clear hcz6_3
     try clear hcz6_4
     try clear hfz10_0
     try clear hfz10_1
     try clear hfz10_2
     try clear hfz10_3
     try clear hfz10_4
     try clear hfz11_0
     try clear hfz11_1
     try clear hfz11_2
     try clear hfz11_3
     try clear hfz11_4
     try clear hfz5_0
     try clear hfz5_1
     try clear hfz5_2
     try clear hfz5_3
     try clear hfz5_4
     try clear hfz6_0
     try clear hfz6_1
     try clear hfz6_2
     try clear hfz6_3
     try clear hfz6_4
     try clear p2
     obtain ⟨kq,x17_7,rfl,HA,HJ7,BK171,HB⟩:=hcut
     cases kq with
     | zero => exact absurd HA.out (by simp [spec_ValidFrame.j1])
     | succ kj7 =>
      have H:=HA.out
      clear HA
      simp only [spec_ValidFrame.j1] at H
      by_cases c12 : x17_7 = true
      ·subst c12
       have H1 : (some false) = some r:=by rw [if_pos rfl] at H;exact H
       clear H
       have H:=H1
       clear H1
       obtain rfl:=Option.some.inj H
       go_wp2
       go_ret
       exact ⟨by first | rfl | (simp [errW_none,errW_some] <;> rfl) | (simp [*,errW_none,errW_some] <;> rfl),by repeat (first | (with_reducible first | exact HB.out | apply below_alloc | apply pw_below_drewN | apply below_drew1 | refine below_set ?_ GE171.out) | exact HB.out)⟩
      ·replace c12:=Bool.eq_false_iff.mpr c12
       subst c12
       have H1 : (if a0_3 < 0 then (some false) else (if a0_3 > 15 then (some false) else ((spec_l1dataLen.f a0_0 a0_1 a0_2 a0_3 l0_4).bind fun t172 => (some ((l0_4.length : Int) == t172))))) = some r:=by rw [if_neg (show ¬ (false = true) by decide)] at H;exact H
       clear H
       have H:=H1
       clear H1
       by_cases c13 : a0_3 < 0
       ·rw [if_pos c13] at H
        have c13b0 : decide (a0_3 < 0) = true:=decide_eq_true c13
        clear c13
        obtain rfl:=Option.some.inj H
        have hcz14_0 : wc.cell? ⟨gb171,0,none⟩ = some (.bool a0_0):=(blk_cell BK171.out 0).trans rfl
        have hcz14_1 : wc.cell? ⟨gb171,1,none⟩ = some (.int .u32 a0_1):=(blk_cell BK171.out 1).trans rfl
        have hcz14_2 : wc.cell? ⟨gb171,2,none⟩ = some (.bool a0_2):=(blk_cell BK171.out 2).trans rfl
        have hcz14_3 : wc.cell? ⟨gb171,3,none⟩ = some (.int .i64 a0_3):=(blk_cell BK171.out 3).trans rfl
        have hcz14_4 : wc.cell? ⟨gb171,4,none⟩ = some (.slice A0_4 l0_4.length c0_4):=(blk_cell BK171.out 4).trans rfl
        have hfz14_0:=blk_frozen BK171.out 0
        have hfz14_1:=blk_frozen BK171.out 1
        have hfz14_2:=blk_frozen BK171.out 2
        have hfz14_3:=blk_frozen BK171.out 3
        have hfz14_4:=blk_frozen BK171.out 4
        go_wp2
        go_ret
        exact ⟨by first | rfl | (simp [errW_none,errW_some] <;> rfl) | (simp [*,errW_none,errW_some] <;> rfl),by repeat (first | (with_reducible first | exact HB.out | apply below_alloc | apply pw_below_drewN | apply below_drew1 | refine below_set ?_ GE171.out) | exact HB.out)⟩
       ·rw [if_neg c13] at H
        have c13b0 : decide (a0_3 < 0) = false:=decide_eq_false c13
        clear c13
        by_cases c15 : a0_3 > 15
        ·rw [if_pos c15] at H
         have c15b0 : decide (15 < a0_3) = true:=decide_eq_true c15
         clear c15
         obtain rfl:=Option.some.inj H
         have hcz16_0 : wc.cell? ⟨gb171,0,none⟩ = some (.bool a0_0):=(blk_cell BK171.out 0).trans rfl
         have hcz16_1 : wc.cell? ⟨gb171,1,none⟩ = some (.int .u32 a0_1):=(blk_cell BK171.out 1).trans rfl
         have hcz16_2 : wc.cell? ⟨gb171,2,none⟩ = some (.bool a0_2):=(blk_cell BK171.out 2).trans rfl
         have hcz16_3 : wc.cell? ⟨gb171,3,none⟩ = some (.int .i64 a0_3):=(blk_cell BK171.out 3).trans rfl
         have hcz16_4 : wc.cell? ⟨gb171,4,none⟩ = some (.slice A0_4 l0_4.length c0_4):=(blk_cell BK171.out 4).trans rfl
         have hfz16_0:=blk_frozen BK171.out 0
         have hfz16_1:=blk_frozen BK171.out 1
         have hfz16_2:=blk_frozen BK171.out 2
         have hfz16_3:=blk_frozen BK171.out 3
         have hfz16_4:=blk_frozen BK171.out 4
         go_wp2
         go_ret
         exact ⟨by first | rfl | (simp [errW_none,errW_some] <;> rfl) | (simp [*,errW_none,errW_some] <;> rfl),by repeat (first | (with_reducible first | exact HB.out | apply below_alloc | apply pw_below_drewN | apply below_drew1 | refine below_set ?_ GE171.out) | exact HB.out)⟩
        ·rw [if_neg c15] at H
         have c15b0 : decide (15 < a0_3) = false:=decide_eq_false c15
         clear c15
         replace H:=Option.bind_eq_some_iff.mp H
         obtain ⟨t172,A170,H⟩:=H
         replace H : (some ((l0_4.length : Int) == t172)) = some r:=H
         have A17:=Aside0.mk A170
         clear A170
         obtain rfl:=Option.some.inj H
         have hcz18_0 : wc.cell? ⟨gb171,0,none⟩ = some (.bool a0_0):=(blk_cell BK171.out 0).trans rfl
         have hcz18_1 : wc.cell? ⟨gb171,1,none⟩ = some (.int .u32 a0_1):=(blk_cell BK171.out 1).trans rfl
         have hcz18_2 : wc.cell? ⟨gb171,2,none⟩ = some (.bool a0_2):=(blk_cell BK171.out 2).trans rfl
         have hcz18_3 : wc.cell? ⟨gb171,3,none⟩ = some (.int .i64 a0_3):=(blk_cell BK171.out 3).trans rfl
         have hcz18_4 : wc.cell? ⟨gb171,4,none⟩ = some (.slice A0_4 l0_4.length c0_4):=(blk_cell BK171.out 4).trans rfl
         have hfz18_0:=blk_frozen BK171.out 0
         have hfz18_1:=blk_frozen BK171.out 1
         have hfz18_2:=blk_frozen BK171.out 2
         have hfz18_3:=blk_frozen BK171.out 3
         have hfz18_4:=blk_frozen BK171.out 4
         try go_wp2
         have n0_:=Aside0.mk (blk_drew BK171.out)
         have n1_:=Aside0.mk (below_drew1 HB.out)
         clear BK171
         clear HB
         have BK171:=n0_
         have HB:=n1_
         clear n0_ n1_
         refine start_ (n:=7) (S:=fun w' => w'.cell? ⟨gb171,0,none⟩ = some (.bool a0_0) ∧ w'.cell? ⟨gb171,1,none⟩ = some (.int .u32 a0_1) ∧ w'.cell? ⟨gb171,2,none⟩ = some (.bool a0_2) ∧ w'.cell? ⟨gb171,3,none⟩ = some (.int .i64 a0_3) ∧ w'.cell? ⟨gb171,4,none⟩ = some (.slice A0_4 l0_4.length c0_4)) (ds := []) #[false,false,false,false,false,false,false] (by kernel_rfl) rfl rfl ⟨(blk_cell BK171.out 0).trans rfl,(blk_cell BK171.out 1).trans rfl,(blk_cell BK171.out 2).trans rfl,(blk_cell BK171.out 3).trans rfl,(blk_cell BK171.out 4).trans rfl⟩ (fun hHeld => ?_)
         generalize wc.drew = w19 at BK171 HB hHeld ⊢
         refine pure_ (i:=0) (N:=some 26) (v := ?_) (a' := ?_) #[true,false,false,false,false,false,false] rfl rfl (by kernel_rfl) (fun _ _ _ h => h) (Or.inl ⟨by rfl, ?_⟩) ?_ ?_
         rotate_left
         ·intro w'
          go_simp
          with_reducible rfl
         rotate_left
         ·simp only [Act.put,List.setIfInBounds_toArray,List.set_cons_zero,List.set_cons_succ,i64_w,i32_w]
          rfl
         refine take_ (i:=1) (N:=some 27) (v := ?_) (a' := ?_) #[true,true,false,false,false,false,false] rfl rfl (by kernel_rfl) (fun _ _ _ h => h) (Or.inl ⟨by rfl, ?_⟩) hHeld ?_ ?_
         rotate_left
         ·rintro w' ⟨s0,s1,s2,s3,s4⟩
          go_simp
          with_reducible rfl
         rotate_left
         ·simp only [Act.put,List.setIfInBounds_toArray,List.set_cons_zero,List.set_cons_succ,i64_w,i32_w]
          rfl
         refine pure_ (i:=2) (N:=some 28) (v := ?_) (a' := ?_) #[true,true,true,false,false,false,false] rfl rfl (by kernel_rfl) (fun _ _ _ h => h) (Or.inl ⟨by rfl, ?_⟩) ?_ ?_
         rotate_left
         ·intro w'
          go_simp
          with_reducible rfl
         rotate_left
         ·simp only [Act.put,List.setIfInBounds_toArray,List.set_cons_zero,List.set_cons_succ,i64_w,i32_w]
          rfl
         refine take_ (i:=3) (N:=some 29) (v := ?_) (a' := ?_) #[true,true,true,true,false,false,false] rfl rfl (by kernel_rfl) (fun _ _ _ h => h) (Or.inl ⟨by rfl, ?_⟩) hHeld ?_ ?_
         rotate_left
         ·rintro w' ⟨s0,s1,s2,s3,s4⟩
          go_simp
          with_reducible rfl
         rotate_left
         ·simp only [Act.put,List.setIfInBounds_toArray,List.set_cons_zero,List.set_cons_succ,i64_w,i32_w]
          rfl
         refine one_ (i:=4) (N:=some 30) #[true,true,true,true,true,false,false] rfl rfl (by kernel_rfl) (by decide) (fun K hK => ?_)
         refine goes_ Try.func73 (by kernel_rfl) rfl #[.agg #[.bool a0_0, .int .u32 a0_1, .bool a0_2, .int .i64 a0_3, .slice A0_4 l0_4.length c0_4]] (by rfl) rfl rfl (by (try simp only [List.map_toArray,List.map_cons,List.map_nil]);first | done | rfl | (simp only [List.length_drop,List.length_take];rfl)) ?_
         with_reducible refine (spec_l1dataLen.calls a0_0 a0_1 a0_2 a0_3 _ _ l0_4 t172 _ ?side1 ?side2 A17.out).mono ?_
         (case side1 => repeat (first | exact (Kd.C_below HR0_4.out HB.out) | (with_reducible refine Kd.C_alloc ?_ _) | (with_reducible refine Kd.C_drewN ?_ _) | (with_reducible refine Kd.C_drew ?_)))
         (case side2 => exact HC0_4.out)
         rintro e w20 ⟨rfl,hb⟩
         refine ⟨_,rfl, ?_⟩
         have n0_:=Aside0.mk (blk_below (g:=gb171) (o := .cells #[.bool a0_0, .int .u32 a0_1, .bool a0_2, .int .i64 a0_3, .slice A0_4 l0_4.length c0_4] 25 (0,0)) (by (with_reducible repeat (first | refine blk_drewN ?_ _ | refine blk_drew ?_ | refine blk_alloc ?_ _));exact BK171.out) hb)
         have n1_:=Aside0.mk (below_step (by repeat (first | (with_reducible first | exact HB.out | apply below_alloc | apply pw_below_drewN | apply below_drew1 | refine below_set ?_ GE171.out) | exact HB.out)) hb)
         clear BK171
         clear HB
         have BK171:=n0_
         have HB:=n1_
         clear n0_ n1_
         (try clear hb)
         (try clear hb2)
         (try clear hk)
         (try clear hi)
         refine hK.out _ _ ⟨(blk_cell BK171.out 0).trans rfl,(blk_cell BK171.out 1).trans rfl,(blk_cell BK171.out 2).trans rfl,(blk_cell BK171.out 3).trans rfl,(blk_cell BK171.out 4).trans rfl⟩ (fun hHeld => ?_)
         clear hK K
         refine norm_ (a' := ?_) ?_ ?_
         rotate_left
         ·show Act.put _ (some 30) _ = _
          simp only [Act.put,List.setIfInBounds_toArray,List.set_cons_zero,List.set_cons_succ,i64_w,i32_w]
          rfl
         refine pure_ (i:=5) (N:=some 31) (v := ?_) (a' := ?_) #[true,true,true,true,true,true,false] rfl rfl (by kernel_rfl) (fun _ _ _ h => h) (Or.inl ⟨by rfl, ?_⟩) ?_ ?_
         rotate_left
         ·intro w'
          go_simp
          with_reducible rfl
         rotate_left
         ·simp only [Act.put,List.setIfInBounds_toArray,List.set_cons_zero,List.set_cons_succ,i64_w,i32_w]
          rfl
         refine pure_ (i:=6) (N:=some 2) (v := ?_) (a' := ?_) #[true,true,true,true,true,true,true] rfl rfl (by kernel_rfl) (fun _ _ _ h => h) (Or.inl ⟨by rfl, ?_⟩) ?_ ?_
         rotate_left
         ·intro w'
          go_simp
          with_reducible rfl
         rotate_left
         ·simp only [Act.put,List.setIfInBounds_toArray,List.set_cons_zero,List.set_cons_succ,i64_w,i32_w]
          rfl
         refine done_ (by kernel_rfl) ?_
         try go_wp2
         go_ret
         exact ⟨by first | rfl | (simp [errW_none,errW_some] <;> rfl) | (simp [*,errW_none,errW_some] <;> rfl),by repeat (first | (with_reducible first | exact HB.out | apply below_alloc | apply pw_below_drewN | apply below_drew1 | refine below_set ?_ GE171.out) | exact HB.out)⟩
end Go.Proofs.Ytdoclpgciadjaaa.P

namespace Go.Proofs.Ytdoclpgciadjaaa.P
open Go.RowKit Go.Proofs.YtdoclpgciadjaaaW.PrintWords Go.Proofs.YtdoclpgciadjaaaW.PrintLast Go.Proofs.YtdoclpgciadjaaaW.PrintMore
set_option linter.unusedVariables false
set_option linter.unusedSimpArgs false
def dataB (rtr : Bool) (dlc : Int) : Int:=if rtr = true then 0 else (if 8 < dlc then 8 else dlc)
theorem impl_dataBytes.same (a0 : Bool) (a1 : Int) (w : World) :
  Calls Try.prog 105 #[.bool a0, .int .i64 a1] w fun e w' => e = .returned (.int .i64 (dataB a0 a1)) ∧ w' = w:=by
 unfold dataB
 cases a0
 ·by_cases c : 8 < a1
  ·have c1 : decide (8 < a1) = true:=decide_eq_true c
   go_enter Try.func105,Try.ntmps105
   go_wp2
   go_ret
   exact ⟨rfl,rfl⟩
  ·have c1 : decide (8 < a1) = false:=decide_eq_false c
   go_enter Try.func105,Try.ntmps105
   go_wp2
   go_ret
   exact ⟨rfl,rfl⟩
 ·go_enter Try.func105,Try.ntmps105
  go_wp2
  go_ret
  exact ⟨rfl,rfl⟩
end Go.Proofs.Ytdoclpgciadjaaa.P

namespace Go.Proofs.Ytdoclpgciadjaaa.P
open Go.RowKit Go.Proofs.YtdoclpgciadjaaaW.PrintWords Go.Proofs.YtdoclpgciadjaaaW.PrintLast Go.Proofs.YtdoclpgciadjaaaW.PrintMore
set_option linter.unusedVariables false
set_option linter.unusedSimpArgs false
def vtop (ext : Bool) : Int:=if ext = true then 536870912 else 2048
def validF (ext : Bool) (id : Int) (rtr : Bool) (dlc : Int) (n : Nat) : Bool:=decide (id < vtop ext) && (decide (0 ≤ dlc) && (decide (dlc ≤ 15) && ((n : Int) == dataB rtr dlc)))
def impl_ValidFrame.f (a0_0 : Bool) (a0_1 : Int) (a0_2 : Bool) (a0_3 : Int) (l0_4 : List Int) : Option (Bool):=some (validF a0_0 a0_1 a0_2 a0_3 l0_4.length)
set_option maxHeartbeats 2000000 in
theorem impl_ValidFrame.any (a0_0 : Bool) (a0_1 : Int) (a0_2 : Bool) (a0_3 : Int) (A0_4 : Option Addr) (c0_4 n : Nat) (w : World) (hn : n ≤ 9223372036854775807) :
  Calls Try.prog 47 #[.agg #[.bool a0_0, .int .u32 a0_1, .bool a0_2, .int .i64 a0_3, .slice A0_4 n c0_4]] w fun e w' => e = .returned (.bool (validF a0_0 a0_1 a0_2 a0_3 n)) ∧ Below w.heap.size w w':=by
 obtain ⟨b1,h1⟩ : ∃ b,decide (a0_1 < vtop a0_0) = b:=⟨_,rfl⟩
 obtain ⟨b2,h2⟩ : ∃ b,decide (0 ≤ a0_3) = b:=⟨_,rfl⟩
 obtain ⟨b3,h3⟩ : ∃ b,decide (a0_3 ≤ 15) = b:=⟨_,rfl⟩
 obtain ⟨b4,h4⟩ : ∃ b,((n : Int) == dataB a0_2 a0_3) = b:=⟨_,rfl⟩
 obtain ⟨r,hr⟩ : ∃ r,validF a0_0 a0_1 a0_2 a0_3 n = r:=⟨_,rfl⟩
 have HR : Hid ((b1 && (b2 && (b3 && b4))) = r):=by
  refine Lib.hid ?_
  rw [← hr, ← h1, ← h2, ← h3, ← h4];rfl
 rw [hr]
 clear hr
 have e0 : vtop false = 2048:=rfl
 have e1 : vtop true = 536870912:=rfl
 cases a0_0
 all_goals (first | rw [e0] at h1 | rw [e1] at h1);clear e0 e1
 all_goals cases b1
 any_goals cases b2
 any_goals cases b3
 all_goals
  go_enter Try.func47,Try.ntmps47
  go_wp2
  go_quiet ((go_at_call 105;exact Calls.quiet_of_same (impl_dataBytes.same _ _ _)))
  go_wp2
  go_ret
  exact ⟨by rw [← HR.out];rfl,((Below.refl _ _).alloc (Nat.le_refl _) _).trans (pw_below_drewN (Below.refl _ _) _)⟩
theorem impl_ValidFrame.calls (a0_0 : Bool) (a0_1 : Int) (a0_2 : Bool) (a0_3 : Int) (A0_4 : Option Addr) (c0_4 : Nat) (l0_4 : List Int) (r : Bool) (w : World) (hr0_4 : Kd.C (Kd.int .u8) w A0_4 l0_4.length l0_4) (hc0_4 : l0_4.length ≤ c0_4) (h : impl_ValidFrame.f a0_0 a0_1 a0_2 a0_3 l0_4 = some r) :
  Calls Try.prog 47 #[.agg #[.bool a0_0, .int .u32 a0_1, .bool a0_2, .int .i64 a0_3, .slice A0_4 l0_4.length c0_4]] w fun e w' => e = .returned (.bool r) ∧ Below w.heap.size w w':=by
 obtain rfl:=Option.some.inj h
 exact impl_ValidFrame.any a0_0 a0_1 a0_2 a0_3 A0_4 c0_4 l0_4.length w hr0_4.2.1
end Go.Proofs.Ytdoclpgciadjaaa.P

namespace Go.Proofs.Ytdoclpgciadjaaa.P
open Go Go.RowKit Go.Proofs.YtdoclpgciadjaaaW.PrintWords
set_option linter.unusedVariables false
def RowM (e : TypeId) (w : World) (base : Nat) (v : Value) (xs : List Int) : Prop :=
 w.ownsRow base e 1 v xs.length (nums .u8 xs) ∨
 ∃ g cap cur fz,v = .slice (some ⟨g,0,none⟩) xs.length cap ∧ base ≤ g ∧ w.heap[g]? = some (.cells cur e fz) ∧ cap ≤ fz.1 ∧ xs.length ≤ cap ∧ cap ≤ maxLen ∧ cur.size = cap ∧ cur.toList.take xs.length = nums .u8 xs
theorem RowM.typed {e : TypeId} {w : World} {base : Nat} {v : Value} {xs : List Int} (h : RowM e w base v xs) {k : Nat} (hk : v.ownBlock = some k) : base ≤ k ∧ k < w.heap.size ∧ ∃ cur fz,w.heap[k]? = some (.cells cur e fz):=by
 rcases h with h | ⟨g,cap,cur,fz,rfl,hb,hh,_⟩
 ·obtain ⟨cells,hc⟩:=own_typed h k hk
  exact ⟨own_base h k hk,own_lt h k hk,cells,_,hc⟩
 ·obtain rfl : g = k:=Option.some.inj hk
  exact ⟨hb,(Array.getElem?_eq_some_iff.1 hh).1,cur,fz,hh⟩
theorem RowM.slice {e : TypeId} {w : World} {base : Nat} {v : Value} {xs : List Int} (h : RowM e w base v xs) : ∃ A n c,v = .slice A n c:=by
 rcases h with h | ⟨g,cap,cur,fz,rfl,_⟩
 ·obtain ⟨A,c,e⟩:=own_slice h
  exact ⟨A,_,c,e⟩
 ·exact ⟨_,_,_,rfl⟩
theorem RowM.move {e : TypeId} {w w1 : World} {base : Nat} {v : Value} {xs : List Int} (h : RowM e w base v xs) (hm : ∀ k,v.ownBlock = some k → w1.heap[k]? = w.heap[k]?) : RowM e w1 base v xs:=by
 rcases h with h | ⟨g,cap,cur,fz,rfl,hb,hh,r⟩
 ·exact .inl (own_move h hm)
 ·exact .inr ⟨g,cap,cur,fz,rfl,hb,(hm g rfl).trans hh,r⟩
structure Fr (w w' : World) (p : Nat) (row row' : Option Nat) : Prop where
 os : w'.os = w.os
 tape : w'.tape = w.tape
 output : w'.output = w.output
 size : w.heap.size ≤ w'.heap.size
 block : ∀ k,k < w.heap.size → k ≠ p → some k ≠ row → w'.heap[k]? = w.heap[k]?
 goes : row' = row ∨ ∃ b,row' = some b ∧ w.heap.size ≤ b
theorem Fr.refl (w : World) (p : Nat) (row : Option Nat) : Fr w w p row row:=⟨rfl,rfl,rfl,Nat.le_refl _,fun _ _ _ _ => rfl, .inl rfl⟩
theorem Fr.trans {w w1 w2 : World} {p : Nat} {r r1 r2 : Option Nat} (h : Fr w w1 p r r1) (k : Fr w1 w2 p r1 r2) : Fr w w2 p r r2:=by
 refine ⟨k.os.trans h.os,k.tape.trans h.tape,k.output.trans h.output,Nat.le_trans h.size k.size,fun j hj hp hr => ?_, ?_⟩
 ·refine (k.block j (Nat.lt_of_lt_of_le hj h.size) hp ?_).trans (h.block j hj hp hr)
  rcases h.goes with e | ⟨b,e,hb⟩
  ·rw [e];exact hr
  ·rw [e];intro e2;have:=Option.some.inj e2;omega
 ·rcases k.goes with e | ⟨b,e,hb⟩
  ·rw [e];exact h.goes
  ·exact .inr ⟨b,e,Nat.le_trans h.size hb⟩
theorem Fr.below {B : Nat} {w0 w w' : World} {p : Nat} {r r' : Option Nat} (h : Fr w w' p r r') (hb : Below B w0 w) (hB : B ≤ w.heap.size) (hp : B ≤ p) (hr : ∀ k,r = some k → B ≤ k) : Below B w0 w' :=
 hb.trans ⟨h.os,h.tape,h.output,h.size,fun k hk => h.block k (by omega) (by omega) (fun e => by have:=hr k e.symm;omega)⟩
theorem nums_one (x : Int) : nums .u8 [x] = [.int .u8 x]:=rfl
theorem RowM.append {P : Program} {ops : Array Oper} {rest : List Oper} {o : Oper} {a : Act} {Q : Exit → Act → World → Prop} {W : World} (base : Nat) (hgd : o.guard = none) (s x : Operand) (t e : TypeId)
  (ho : o.op = .call { callee := .builtin .append,args := #[s,x],argTypes := #[t,t] })
  (ht : P.underlying t = some (.slice e)) (hinfo : (P.info? e).map (fun i => (i.zero,i.size,i.bytes)) = some (some (.int .u8 0),1,1))
  (v : Value) (xs : List Int) (b : Int) (hs : a.eval s = v) (hx : a.eval x = .slice (some ⟨W.heap.size,0,none⟩) 1 1)
  (HO : RowM e W base v xs) (hbase : base ≤ W.heap.size) (hl : xs.length + 1 ≤ 1000000)
  (h : ∀ v1 w1,RowM e w1 base v1 (xs ++ [b]) → Fr W w1 W.heap.size v.ownBlock v1.ownBlock → wpList P ops Q rest (a.put o.dst v1) w1) :
  wpList P ops Q (o :: rest) a (W.alloc (.cells #[.int .u8 b] e)):=by
 have hn : (xs ++ [b]).length = xs.length + 1:=by simp
 rcases HO with HO | ⟨g,cap,cur,fz,rfl,hb,hh,hfz,hlc,hcm,hcs,htk⟩
 ·refine print_append_cells (w0:=W) (ys := [.int .u8 b]) base hgd s x t e (.int .u8 0) 1 1 ho ht hinfo rfl (by decide) (by decide) v xs.length (nums .u8 xs) hs hx rfl (by simp [Value.oneCell']) HO (Below.refl _ _) hbase (by omega) ?_
  intro v1 w1 hown _ hg hat
  refine h v1 w1 (.inl (by rw [hn,nums_append];exact hown)) ⟨hg.os,hg.tape,hg.output,hg.size,fun k hk _ hr => hg.block k hk hr, ?_⟩
  rcases hat with e1 | ⟨c,e1,hc⟩
  ·exact .inl e1
  ·exact .inr ⟨c,e1,hc⟩
 ·obtain ⟨i0,hi,hzz⟩:=Option.map_eq_some_iff.1 hinfo
  simp only [Prod.mk.injEq] at hzz
  obtain ⟨hz0,hz1,hz2⟩:=hzz
  have hgl : g < W.heap.size:=(Array.getElem?_eq_some_iff.1 hh).1
  have hhA : (W.alloc (.cells #[.int .u8 b] e)).heap[g]? = some (.cells cur e fz):=(heap_alloc_old W _ hgl).trans hh
  have hcell : ∀ j,(W.alloc (.cells #[.int .u8 b] e)).cell? ⟨g,j,none⟩ = cur[j]?:=fun j => by simp only [World.cell?,hhA];simp
  have hol : (nums .u8 xs).length = xs.length * 1:=by rw [nums_length,Nat.mul_one]
  refine wpList_append_arg (W.alloc (.cells #[.int .u8 b] e)) hgd s x t ho e i0 (.int .u8 0) 1 1 ht hi hz0 hz1 hz2 rfl (by decide) g 0 xs.length cap (nums .u8 xs) hs hol (fun j u hj => ?_) ⟨W.heap.size,0,none⟩ 1 1 [.int .u8 b] hx rfl
   (by simpa using World.news_of_block (cs := #[.int .u8 b]) (t:=e) (fr:=(0,0)) (heap_alloc_new W (.cells #[.int .u8 b] e))) (by simp [Value.oneCell']) (fun hroom j hj => ⟨?_, ?_⟩) (by simp only [maxLen];omega) (by omega) (fun hroom => ?_) (fun _ v1 w1 hown hg => ?_)
  ·rw [Nat.zero_add,hcell]
   have hjl : j < xs.length:=by have:=(List.getElem?_eq_some_iff.1 hj).1;rw [nums_length] at this;exact this
   rw [← htk,List.getElem?_take_of_lt hjl,Array.getElem?_toList] at hj
   exact hj
  ·have hj1 : j < 1:=hj
   rw [hcell,Array.getElem?_eq_getElem (by omega)];rfl
  ·have hj1 : j < 1:=hj
   obtain ⟨lo,hi'⟩:=fz
   simp only [World.frozen?,hhA]
   have hlo : cap ≤ lo:=hfz
   rw [decide_eq_false (show ¬ lo ≤ 0 + xs.length * 1 + j by omega),Bool.false_and]
  ·have e0 : 0 + xs.length * 1 = xs.length:=by omega
   rw [e0]
   have hset : ((W.alloc (.cells #[.int .u8 b] e)).setCell ⟨g,xs.length,none⟩ (.int .u8 b)).heap[g]? = some (.cells (cur.setIfInBounds xs.length (.int .u8 b)) e fz):=by
    simp only [World.setCell,Array.getElem?_modify,hhA]
    simp
   have hs1 : ((W.alloc (.cells #[.int .u8 b] e)).setCell ⟨g,xs.length,none⟩ (.int .u8 b)).heap.size = W.heap.size + 1:=by simp
   refine h _ _ (.inr ⟨g,cap,_,fz,by rw [hn],hb,hset,hfz,by rw [hn];exact hroom,hcm,by simp [hcs], ?_⟩) ⟨rfl,rfl,rfl, ?_,fun k hk _ hr => ?_, .inl rfl⟩
   ·rw [hn,nums_append,nums_one,Array.toList_setIfInBounds,List.take_add_one,List.take_set_of_le (Nat.le_refl _),htk,List.getElem?_set_self (by simpa using (show xs.length < cur.size by omega))]
    rfl
   ·show W.heap.size ≤ ((W.alloc (.cells #[.int .u8 b] e)).setCell ⟨g,xs.length,none⟩ (.int .u8 b)).heap.size
    rw [hs1];omega
   ·show ((W.alloc (.cells #[.int .u8 b] e)).setCell ⟨g,xs.length,none⟩ (.int .u8 b)).heap[k]? = W.heap[k]?
    rw [Below.heap_setCell _ _ _ k (fun e1 => hr (by rw [e1];rfl)),heap_alloc_old W _ hk]
  ·have e1 : nums .u8 xs ++ [Value.int .u8 b] = nums .u8 (xs ++ [b]):=by rw [nums_append,nums_one]
   rw [e1] at hown
   have hw : w1.ownsRow base e 1 v1 (xs ++ [b]).length (nums .u8 (xs ++ [b])):=by rw [hn];exact own_weaken hown (by simp;omega)
   refine h v1 w1 (.inl hw) ⟨hg.os,hg.tape,hg.output,Nat.le_trans (by simp) hg.size,fun k hk hk2 hr => ?_, ?_⟩
   ·rw [hg.block k (by simp;omega) (by simp),heap_alloc_old W _ hk]
   ·rcases hown.2 with ⟨_,h0⟩ | ⟨g',c',cu',rfl,hb',_⟩
    ·omega
    ·exact .inr ⟨g',rfl,by simp at hb';omega⟩
theorem RowM.string {P : Program} {w : World} {base : Nat} {src dst e' e : TypeId} {v : Value} {xs : List Int} (hs : P.underlying src = some (.slice e)) (he : P.underlying e = some (.int .u8)) (hd : P.underlying dst = some .string) (h : RowM e' w base v xs) : (convert src dst v).run P w = .ok (.string (strOfNums xs)) w:=by
 rcases h with h | ⟨g,cap,cur,fz,rfl,hb,hh,hfz,hlc,hcm,hcs,htk⟩
 ·exact own_string hs he hd h
 ·refine run_convert_bytes_arg w src e hs he g 0 xs.length cap xs rfl (fun i hi => ?_) dst hd
  have h1 : (nums .u8 xs)[i]? = some (.int .u8 (xs.getD i 0)):=by simp [nums,List.getElem?_eq_getElem hi,List.getD_eq_getElem?_getD]
  rw [← htk,List.getElem?_take_of_lt hi,Array.getElem?_toList] at h1
  simp only [World.cell?,hh]
  simpa using h1
def numL (u : Nat) : Nat → List Int
 | 0 => []
 | n + 1 => (48 + ((u / 2 ^ n % 2 : Nat) : Int)) :: numL u n
theorem numL_length (u : Nat) : ∀ n,(numL u n).length = n
 | 0 => rfl
 | n + 1 => by rw [numL,List.length_cons,numL_length u n]
theorem Fr.store {w w1 : World} {p : Nat} {r : Option Nat} {v1 : Value} (h : Fr w w1 w.heap.size r v1.ownBlock) (hp : p < w.heap.size) : Fr w (w1.setCell ⟨p,0,none⟩ v1) p r v1.ownBlock :=
 ⟨h.os,h.tape,h.output,by simpa using h.size,fun k hk hkp hr => by
  rw [Below.heap_setCell _ _ _ k hkp];exact h.block k hk (by omega) hr,h.goes⟩
theorem cell_block {w : World} {p : Nat} {v : Value} {t : TypeId} (h : w.heap[p]? = some (.cells #[v] t (0,0))) : w.cell? ⟨p,0,none⟩ = some v:=by simp only [World.cell?,h];simp
theorem frozen_block {w : World} {p : Nat} {v : Value} {t : TypeId} (h : w.heap[p]? = some (.cells #[v] t (0,0))) (j : Nat) : w.frozen? ⟨p,j,none⟩ = false:=by simp only [World.frozen?,h];simp
theorem set_block {w : World} {p : Nat} {v u : Value} {t : TypeId} (h : w.heap[p]? = some (.cells #[v] t (0,0))) : (w.setCell ⟨p,0,none⟩ u).heap[p]? = some (.cells #[u] t (0,0)):=by
 simp only [World.setCell,Array.getElem?_modify,h]
 simp
theorem RowM.bytes (w : World) (e : TypeId) (s : ByteArray) (base : Nat) (hb : base ≤ w.heap.size) (hs : s.size ≤ maxLen) : RowM e (Lib.bytesWorld w e s) base (.slice (some ⟨w.heap.size,0,none⟩) s.size (grownCap w s.size 0 e)) (bytesOf s):=by
 have hg:=grownCap_ge w s.size 0 e
 have hz : (Lib.bytesCells w e s).size = grownCap w s.size 0 e:=by simp [Lib.bytesCells];have : s.data.size = s.size:=rfl;omega
 refine .inr ⟨w.heap.size,_,_,_,by rw [bytesOf_length],hb,Lib.bytesWorld_at_new w e s,by rw [hz];exact Nat.le_refl _,by rw [bytesOf_length];exact hg,grownCap_le_maxLen w s.size 0 e hs,hz, ?_⟩
 rw [bytesOf_length]
 unfold Lib.bytesCells nums bytesOf
 rw [Array.toList_append,List.take_append_of_le_length (by simp),List.take_of_length_le (by simp)]
 simp
structure BW (e t : TypeId) (w wr : World) (b p : Nat) (box : Array Value) (tb : TypeId) (v : Value) (xs : List Int) : Prop where
 box : wr.heap[b]? = some (.cells box tb (0,0))
 ptr : wr.heap[p]? = some (.cells #[v] t (0,0))
 row : RowM e wr w.heap.size v xs
 below : Below w.heap.size w wr
 lo : w.heap.size ≤ b
 lp : w.heap.size ≤ p
 ne : b ≠ p
theorem BW.step {e t : TypeId} {w wr w' : World} {b p : Nat} {box : Array Value} {tb : TypeId} {v v' : Value} {xs ys : List Int} (h : BW e t w wr b p box tb v xs) (he : e ≠ tb) (hp : w'.heap[p]? = some (.cells #[v'] t (0,0))) (hv : RowM e w' w.heap.size v' ys) (hf : Fr wr w' p v.ownBlock v'.ownBlock) : BW e t w w' b p box tb v' ys:=by
 refine ⟨(hf.block b (Array.getElem?_eq_some_iff.1 h.box).1 h.ne (fun e1 => ?_)).trans h.box,hp,hv,hf.below h.below h.below.size h.lp (fun k hk => (h.row.typed hk).1),h.lo,h.lp,h.ne⟩
 obtain ⟨_,_,cur,fz,hc⟩:=h.row.typed e1.symm
 rw [h.box] at hc
 injection hc with hc
 injection hc with _ hc
 exact he hc.symm
theorem RowM.nil (e : TypeId) (w : World) (base : Nat) : RowM e w base (.slice none 0 0) [] := .inl (own_nil w base e 1)
def flagL (b : Bool) : List Int := [48 + b2 b]
def dataL (l : List Int) : List Int:=l.flatMap fun x => numL x.toNat 8
def headL (ext : Bool) (id : Int) (rtr : Bool) : List Int :=
 if ext = true then numL 0 1 ++ numL (id.toNat / 262144) 11 ++ numL 3 2 ++ numL id.toNat 18 ++ flagL rtr ++ numL 0 2 else numL 0 1 ++ numL id.toNat 11 ++ flagL rtr ++ numL 0 2
def bodyL (ext : Bool) (id : Int) (rtr : Bool) (dlc : Int) (data : List Int) : List Int:=headL ext id rtr ++ numL dlc.toNat 4 ++ dataL data
theorem headL_length (ext : Bool) (id : Int) (rtr : Bool) : (headL ext id rtr).length ≤ 35:=by
 cases ext <;> simp [headL,numL_length,flagL]
theorem dataL_length (l : List Int) : (dataL l).length = 8 * l.length:=by
 induction l with
 | nil => rfl
 | cons a l ih => rw [dataL,List.flatMap_cons,List.length_append,numL_length,List.length_cons];unfold dataL at ih;omega
theorem dataL_snoc (l : List Int) (x : Int) : dataL (l ++ [x]) = dataL l ++ numL x.toNat 8:=by simp [dataL,List.flatMap_append]
end Go.Proofs.Ytdoclpgciadjaaa.P

namespace Go.Proofs.Ytdoclpgciadjaaa.P
open Go.RowKit Go.Proofs.YtdoclpgciadjaaaW.PrintWords Go.Proofs.YtdoclpgciadjaaaW.PrintLast Go.Proofs.YtdoclpgciadjaaaW.PrintMore
set_option linter.unusedVariables false
set_option linter.unusedSimpArgs false
set_option maxHeartbeats 1000000 in
theorem impl_letters_number.calls (p : Nat) (v : Value) (xs : List Int) (u n B : Nat) (w : World) (hp : w.heap[p]? = some (.cells #[v] 107 (0,0))) (hv : RowM 5 w B v xs) (hB : B ≤ w.heap.size) (hu : u < 4294967296) (hn : n ≤ 32) (hx : xs.length ≤ 10000) :
  Calls Try.prog 74 #[.pointer (some ⟨p,0,none⟩), .int .u32 (u : Int), .int .i64 (n : Int)] w fun e w' => e = .returned (.tuple #[]) ∧ ∃ v',w'.heap[p]? = some (.cells #[v'] 107 (0,0)) ∧ RowM 5 w' B v' (xs ++ numL u n) ∧ Fr w w' p v.ownBlock v'.ownBlock:=by
 have HV:=Lib.hid hv
 have HP:=Lib.hid hp
 have HB:=Lib.hid hB
 have HX:=Lib.hid hx
 clear hv hp hB hx
 go_enter Try.func74,Try.ntmps74
 go_wp2
 go_loopw [6] (fun v6 wr => ∃ (m : Nat) (out : List Int) (v1 : Value),m ≤ n ∧ v6 = .int .i64 ((m : Int) - 1) ∧ Aside0 (out ++ numL u m = xs ++ numL u n ∧ out.length + m = xs.length + n) ∧ Aside0 (wr.heap[p]? = some (.cells #[v1] 107 (0,0))) ∧ Aside0 (RowM 5 wr B v1 out) ∧ Aside0 (Fr w wr p v.ownBlock v1.ownBlock)) (fun v6 _ => (intOf v6 + 1).toNat)
 case atStart => exact ⟨n,xs,v,Nat.le_refl _,rfl,⟨rfl,rfl⟩,⟨HP.out⟩,⟨HV.out⟩,⟨Fr.refl _ _ _⟩⟩
 case round =>
  obtain ⟨m,out,v1,hm,rfl,HL,HP1,HV1,HF⟩:=hrel
  cases m with
  | zero =>
   go_wp2
   go_end0
   have h1:=HL.out.1
   rw [numL,List.append_nil] at h1
   exact ⟨rfl,v1,HP1.out,h1 ▸ HV1.out,HF.out⟩
  | succ m =>
   have hcell:=cell_block HP1.out
   have HBIT : Hid ((48 + Go.bits .and .u32 ((u : Int) / 2 ^ m) 1) % 256 = 48 + ((u / 2 ^ m % 2 : Nat) : Int)):=by
    refine Lib.hid ?_
    have e1 : (u : Int) / 2 ^ m = ((u / 2 ^ m : Nat) : Int):=by push_cast;rfl
    have hlt : u / 2 ^ m < 4294967296:=Nat.lt_of_le_of_lt (Nat.div_le_self _ _) hu
    have h2:=u32_and_nat (u / 2 ^ m) 1 hlt (by decide)
    rw [show ((1 : Nat) : Int) = 1 from rfl] at h2
    rw [e1,h2,Nat.and_one_is_mod]
    omega
   have HPL : Hid (p < wr.heap.size):=Lib.hid (Array.getElem?_eq_some_iff.1 HP1.out).1
   have HPN : Hid (some p ≠ v1.ownBlock):=Lib.hid (fun e1 => by
    obtain ⟨_,_,cur,fz,hc⟩:=HV1.out.typed e1.symm
    rw [HP1.out] at hc
    injection hc with hc
    injection hc with _ hc
    exact absurd hc (by decide))
   go_wp2_with (at_builtin;refine RowM.append B rfl (.tmp 16) (.tmp 24) 107 5 rfl Try.underlying107 infoU8 v1 out ((48 + Go.bits .and .u32 ((u : Int) / 2 ^ m) 1) % 256) rfl rfl HV1.out ?aS ?aL ?_;(case aS => exact Nat.le_trans HB.out HF.out.size);(case aL => have:=HL.out.2;have:=HX.out;omega);intro v2 w2 hv2 hf2;rw [HBIT.out] at hv2;obtain ⟨A2,n2,c2,ev2⟩:=hv2.slice;subst ev2;have HV2:=Lib.hid hv2;have HF2:=Lib.hid hf2;have HP2:=Lib.hid ((hf2.block p HPL.out (Nat.ne_of_lt HPL.out) HPN.out).trans HP1.out);clear hv2 hf2;have hcell2:=cell_block HP2.out;have hfr2:=frozen_block HP2.out 0)
   go_roundw
   case rel =>
    refine ⟨m,out ++ [48 + ((u / 2 ^ m % 2 : Nat) : Int)],_,by omega,by go_num,⟨?_, ?_⟩,⟨set_block HP2.out⟩,⟨HV2.out.move (fun k hk => ?_)⟩,⟨HF.out.trans (HF2.out.store HPL.out)⟩⟩
    ·rw [← HL.out.1,numL,List.append_assoc];rfl
    ·have:=HL.out.2;rw [List.length_append];simp;omega
    ·refine Below.heap_setCell _ _ _ k (fun e1 => ?_)
     obtain ⟨_,_,cur,fz,hc⟩:=HV2.out.typed hk
     rw [show k = p from e1,HP2.out] at hc
     injection hc with hc
     injection hc with _ hc
     exact absurd hc (by decide)
   case measure => first | (simp [intOf];done) | (simp [intOf];omega)
theorem impl_letters_number.at (x y : Int) (p : Nat) (v : Value) (xs : List Int) (u n B : Nat) (w : World) (hp : w.heap[p]? = some (.cells #[v] 107 (0,0))) (hv : RowM 5 w B v xs) (hB : B ≤ w.heap.size) (hx : x = (u : Int)) (hu : u < 4294967296) (hy : y = (n : Int)) (hn : n ≤ 32) (hl : xs.length ≤ 10000) :
  Calls Try.prog 74 #[.pointer (some ⟨p,0,none⟩), .int .u32 x, .int .i64 y] w fun e w' => e = .returned (.tuple #[]) ∧ ∃ v',w'.heap[p]? = some (.cells #[v'] 107 (0,0)) ∧ RowM 5 w' B v' (xs ++ numL u n) ∧ Fr w w' p v.ownBlock v'.ownBlock:=by
 subst hx hy
 exact impl_letters_number.calls p v xs u n B w hp hv hB hu hn hl
end Go.Proofs.Ytdoclpgciadjaaa.P

namespace Go.Proofs.Ytdoclpgciadjaaa.P
open Go.RowKit Go.Proofs.YtdoclpgciadjaaaW.PrintWords Go.Proofs.YtdoclpgciadjaaaW.PrintLast Go.Proofs.YtdoclpgciadjaaaW.PrintMore
set_option linter.unusedVariables false
set_option linter.unusedSimpArgs false
theorem impl_letters_flag.calls (p : Nat) (v : Value) (xs : List Int) (b : Bool) (B : Nat) (w : World) (hp : w.heap[p]? = some (.cells #[v] 107 (0,0))) (hv : RowM 5 w B v xs) (hB : B ≤ w.heap.size) (hl : xs.length ≤ 10000) :
  Calls Try.prog 75 #[.pointer (some ⟨p,0,none⟩), .bool b] w fun e w' => e = .returned (.tuple #[]) ∧ ∃ v',w'.heap[p]? = some (.cells #[v'] 107 (0,0)) ∧ RowM 5 w' B v' (xs ++ [48 + b2 b]) ∧ Fr w w' p v.ownBlock v'.ownBlock:=by
 have H0:=Lib.hid (impl_letters_number.at 0 1 p v xs 0 1 B w hp hv hB rfl (by omega) rfl (by omega) hl)
 have H1:=Lib.hid (impl_letters_number.at 1 1 p v xs 1 1 B w hp hv hB rfl (by omega) rfl (by omega) hl)
 clear hp hv hB hl
 cases b
 ·go_enter Try.func75,Try.ntmps75
  go_wp2_with (go_at_call 74;refine H0.out.mono ?_;rintro e w' ⟨rfl,v',h1,h2,h3⟩;have R1:=Lib.hid h1;have R2:=Lib.hid h2;have R3:=Lib.hid h3;clear h1 h2 h3)
  go_end0
  exact ⟨rfl,v',R1.out,R2.out,R3.out⟩
 ·go_enter Try.func75,Try.ntmps75
  go_wp2_with (go_at_call 74;refine H1.out.mono ?_;rintro e w' ⟨rfl,v',h1,h2,h3⟩;have R1:=Lib.hid h1;have R2:=Lib.hid h2;have R3:=Lib.hid h3;clear h1 h2 h3)
  go_end0
  exact ⟨rfl,v',R1.out,R2.out,R3.out⟩
end Go.Proofs.Ytdoclpgciadjaaa.P

namespace Go.Proofs.Ytdoclpgciadjaaa.P
open Go.RowKit Go.Proofs.YtdoclpgciadjaaaW.PrintWords Go.Proofs.YtdoclpgciadjaaaW.PrintLast Go.Proofs.YtdoclpgciadjaaaW.PrintMore
set_option linter.unusedVariables false
set_option linter.unusedSimpArgs false
def okBytes (l : List Int) : Bool:=l.all fun x => decide (0 ≤ x) && decide (x < 256)
theorem okBytes_at {l : List Int} (h : okBytes l = true) (i : Nat) (hi : i < l.length) : 0 ≤ rd l (i : Int) ∧ rd l (i : Int) < 256:=by
 have:=List.all_eq_true.1 h _ (List.mem_of_getElem? (rd_get l i hi))
 simpa using this
def bodyV (ext : Bool) (id : Int) (rtr : Bool) (dlc : Int) (data : List Int) : ByteArray:=if validF ext id rtr dlc data.length = true then strOfNums (bodyL ext id rtr dlc data) else ⟨#[]⟩
def impl_Body.f (a0_0 : Bool) (a0_1 : Int) (a0_2 : Bool) (a0_3 : Int) (l0_4 : List Int) : Option (ByteArray):=if 0 ≤ a0_1 ∧ okBytes l0_4 = true then some (bodyV a0_0 a0_1 a0_2 a0_3 l0_4) else none
theorem valid_parts {ext : Bool} {id : Int} {rtr : Bool} {dlc : Int} {n : Nat} (h : validF ext id rtr dlc n = true) : id < vtop ext ∧ 0 ≤ dlc ∧ dlc ≤ 15 ∧ (n : Int) = dataB rtr dlc ∧ n ≤ 8:=by
 unfold validF at h
 rw [Bool.and_eq_true,Bool.and_eq_true,Bool.and_eq_true] at h
 obtain ⟨h1,h2,h3,h4⟩:=h
 have h5 : (n : Int) = dataB rtr dlc:=by simpa using h4
 refine ⟨of_decide_eq_true h1,of_decide_eq_true h2,of_decide_eq_true h3,h5, ?_⟩
 unfold dataB at h5
 split at h5
 ·omega
 ·split at h5
  ·omega
  ·have:=of_decide_eq_true h2;have:=of_decide_eq_true h3;omega
section
variable {v0 v1 v2 v3 v4 : Value}
theorem box5_0 : (#[v0,v1,v2,v3,v4] : Array Value)[0]? = some v0:=rfl
theorem box5_1 : (#[v0,v1,v2,v3,v4] : Array Value)[1]? = some v1:=rfl
theorem box5_2 : (#[v0,v1,v2,v3,v4] : Array Value)[2]? = some v2:=rfl
theorem box5_3 : (#[v0,v1,v2,v3,v4] : Array Value)[3]? = some v3:=rfl
theorem box1_0 : (#[v0] : Array Value)[0]? = some v0:=rfl
theorem box5_4 : (#[v0,v1,v2,v3,v4] : Array Value)[4]? = some v4:=rfl
end
theorem take_next (l : List Int) (i : Nat) (h : i < l.length) : l.take (i + 1) = l.take i ++ [rd l (i : Int)]:=by
 rw [List.take_succ_eq_append_getElem h]
 have:=rd_get l i h
 rw [List.getElem?_eq_getElem h] at this
 rw [Option.some.inj this]
set_option maxHeartbeats 4000000 in
theorem impl_Body.yes (ext : Bool) (id : Int) (rtr : Bool) (dlc : Int) (A : Option Addr) (c : Nat) (l : List Int) (w : World) (hr : Kd.C (Kd.int .u8) w A l.length l) (hc : l.length ≤ c) (h0 : 0 ≤ id) (hb : okBytes l = true) (hv : validF ext id rtr dlc l.length = true) :
  Calls Try.prog 15 #[.agg #[.bool ext, .int .u32 id, .bool rtr, .int .i64 dlc, .slice A l.length c]] w fun e w' => e = .returned (.string (strOfNums (bodyL ext id rtr dlc l))) ∧ Below w.heap.size w w':=by
 obtain ⟨hid,hd0,hd1, -,hn8⟩:=valid_parts hv
 have HV : Hid (impl_ValidFrame.f ext id rtr dlc l = some true):=Lib.hid (by unfold impl_ValidFrame.f;rw [hv])
 have HR:=Lib.hid hr
 have HC:=Lib.hid hc
 have HOB:=Lib.hid hb
 have hid2 : id < 536870912:=by unfold vtop at hid;split at hid <;> omega
 have HID : Hid (ext = false → id < 2048):=Lib.hid (fun e => by rw [e] at hid;exact hid)
 have HU : Hid (id = (id.toNat : Int)):=Lib.hid (by omega)
 have HD : Hid (dlc = (dlc.toNat : Int)):=Lib.hid (by omega)
 have HU2 : Hid (id / 262144 = ((id.toNat / 262144 : Nat) : Int)):=Lib.hid (by omega)
 have HL : Hid (l.length ≤ 8):=Lib.hid hn8
 have hm8 : l.length ≤ 9223372036854775807:=by omega
 clear hv hr hc hb hid hn8
 cases ext
 ·go_enter Try.func15,Try.ntmps15
  go_wp2_with (fail)
  (refine (impl_ValidFrame.calls false id rtr dlc A c l true _ (Kd.C_below HR.out ((Below.refl _ _).alloc (Nat.le_refl _) _)) HC.out HV.out).mono ?_;rintro e w1 ⟨rfl,hb1⟩;have HB1:=Lib.hid hb1;clear hb1;have HBW : Hid (BW 5 107 w (w1.alloc (.cells #[.slice none 0 0] 107)) w.heap.size w1.heap.size #[.bool false, .int .u32 id, .bool rtr, .int .i64 dlc, .slice A l.length c] 25 (.slice none 0 0) []):=Lib.hid ⟨blk_alloc (blk_below (blk_new w _) HB1.out) _,blk_new _ _,RowM.nil _ _ _,((Below.refl _ _).alloc (Nat.le_refl _) _).trans ⟨HB1.out.os,HB1.out.tape,HB1.out.output,HB1.out.size,fun k hk => HB1.out.block k (by simp;omega)⟩ |>.alloc (by have:=HB1.out.size;simp at this;omega) _,Nat.le_refl _,by have:=HB1.out.size;simp at this;omega,by have:=HB1.out.size;simp at this;omega⟩;have hc0:=blk_cell HBW.out.box 0;have hc1:=blk_cell HBW.out.box 1;have hc2:=blk_cell HBW.out.box 2;have hc3:=blk_cell HBW.out.box 3;have hc4:=blk_cell HBW.out.box 4;simp only [box5_0,box5_1,box5_2,box5_3,box5_4] at hc0 hc1 hc2 hc3 hc4)
  go_wp2_with (fail)
  ((with_reducible refine (impl_letters_number.at 0 1 _ _ _ 0 1 w.heap.size _ HBW.out.ptr HBW.out.row HBW.out.below.size rfl ?hu rfl (by omega) ?hl).mono ?_);(case hu => omega);(case hl => simp [numL_length,flagL]);rintro e w' ⟨rfl,v',hq1,hq2,hq3⟩;have HN:=Lib.hid (HBW.out.step (by decide) hq1 hq2 hq3);clear hq1 hq2 hq3 hc0 hc1 hc2 hc3 hc4 HBW;have HBW:=HN;clear HN;have hc0:=blk_cell HBW.out.box 0;have hc1:=blk_cell HBW.out.box 1;have hc2:=blk_cell HBW.out.box 2;have hc3:=blk_cell HBW.out.box 3;have hc4:=blk_cell HBW.out.box 4;simp only [box5_0,box5_1,box5_2,box5_3,box5_4] at hc0 hc1 hc2 hc3 hc4)
  go_wp2_with (fail)
  ((with_reducible refine (impl_letters_number.at id 11 _ _ _ id.toNat 11 w.heap.size _ HBW.out.ptr HBW.out.row HBW.out.below.size HU.out ?hu rfl (by omega) ?hl).mono ?_);(case hu => omega);(case hl => simp [numL_length,flagL]);rintro e w' ⟨rfl,v',hq1,hq2,hq3⟩;have HN:=Lib.hid (HBW.out.step (by decide) hq1 hq2 hq3);clear hq1 hq2 hq3 hc0 hc1 hc2 hc3 hc4 HBW;have HBW:=HN;clear HN;have hc0:=blk_cell HBW.out.box 0;have hc1:=blk_cell HBW.out.box 1;have hc2:=blk_cell HBW.out.box 2;have hc3:=blk_cell HBW.out.box 3;have hc4:=blk_cell HBW.out.box 4;simp only [box5_0,box5_1,box5_2,box5_3,box5_4] at hc0 hc1 hc2 hc3 hc4)
  go_wp2_with (fail)
  ((with_reducible refine (impl_letters_flag.calls _ _ _ rtr w.heap.size _ HBW.out.ptr HBW.out.row HBW.out.below.size ?hl).mono ?_);(case hl => simp [numL_length,flagL]);rintro e w' ⟨rfl,v',hq1,hq2,hq3⟩;have HN:=Lib.hid (HBW.out.step (by decide) hq1 hq2 hq3);clear hq1 hq2 hq3 hc0 hc1 hc2 hc3 hc4 HBW;have HBW:=HN;clear HN;have hc0:=blk_cell HBW.out.box 0;have hc1:=blk_cell HBW.out.box 1;have hc2:=blk_cell HBW.out.box 2;have hc3:=blk_cell HBW.out.box 3;have hc4:=blk_cell HBW.out.box 4;simp only [box5_0,box5_1,box5_2,box5_3,box5_4] at hc0 hc1 hc2 hc3 hc4)
  go_wp2_with (fail)
  ((with_reducible refine (impl_letters_number.at 0 2 _ _ _ 0 2 w.heap.size _ HBW.out.ptr HBW.out.row HBW.out.below.size rfl ?hu rfl (by omega) ?hl).mono ?_);(case hu => omega);(case hl => simp [numL_length,flagL]);rintro e w' ⟨rfl,v',hq1,hq2,hq3⟩;have HN:=Lib.hid (HBW.out.step (by decide) hq1 hq2 hq3);clear hq1 hq2 hq3 hc0 hc1 hc2 hc3 hc4 HBW;have HBW:=HN;clear HN;have hc0:=blk_cell HBW.out.box 0;have hc1:=blk_cell HBW.out.box 1;have hc2:=blk_cell HBW.out.box 2;have hc3:=blk_cell HBW.out.box 3;have hc4:=blk_cell HBW.out.box 4;simp only [box5_0,box5_1,box5_2,box5_3,box5_4] at hc0 hc1 hc2 hc3 hc4)
  go_wp2_with (fail)
  ((with_reducible refine (impl_letters_number.at dlc 4 _ _ _ dlc.toNat 4 w.heap.size _ HBW.out.ptr HBW.out.row HBW.out.below.size HD.out ?hu rfl (by omega) ?hl).mono ?_);(case hu => omega);(case hl => simp [numL_length,flagL]);rintro e w' ⟨rfl,v',hq1,hq2,hq3⟩;have HN:=Lib.hid (HBW.out.step (by decide) hq1 hq2 hq3);clear hq1 hq2 hq3 hc0 hc1 hc2 hc3 hc4 HBW;have HBW:=HN;clear HN;have hc0:=blk_cell HBW.out.box 0;have hc1:=blk_cell HBW.out.box 1;have hc2:=blk_cell HBW.out.box 2;have hc3:=blk_cell HBW.out.box 3;have hc4:=blk_cell HBW.out.box 4;simp only [box5_0,box5_1,box5_2,box5_3,box5_4] at hc0 hc1 hc2 hc3 hc4)
  go_wp2_with (fail)
  have HBW' : Hid (BW 5 107 w _ w.heap.size w1.heap.size _ 25 _ (headL false id rtr ++ numL dlc.toNat 4 ++ dataL (l.take 0))):=Lib.hid (by have h:=HBW.out;simpa [headL,dataL,flagL] using h)
  clear hc0 hc1 hc2 hc3 hc4 HBW
  go_loopw [38] (fun v38 wr => ∃ (i : Nat) (v : Value),i ≤ l.length ∧ Aside0 (BW 5 107 w wr w.heap.size w1.heap.size #[.bool false, .int .u32 id, .bool rtr, .int .i64 dlc, .slice A l.length c] 25 v (headL false id rtr ++ numL dlc.toNat 4 ++ dataL (l.take i))) ∧ v38 = .int .i64 i) (fun v38 _ => l.length - (intOf v38).toNat)
  case atStart => exact ⟨0,_,Nat.zero_le _,⟨HBW'.out⟩,rfl⟩
  case round =>
   obtain ⟨i,v,hi,HBW,rfl⟩:=hrel
   have hptr:=blk_cell HBW.out.ptr 0
   simp only [box1_0] at hptr
   by_cases hlt : i < l.length
   ·obtain ⟨ad,ea,hcell⟩:=Kd.at_int (Kd.C_below HR.out HBW.out.below) (i : Int) (by omega) (by omega)
    subst ea
    have HBY:=Lib.hid (okBytes_at HOB.out i hlt)
    have HX : Hid (rd l (i : Int) = ((rd l (i : Int)).toNat : Int)):=Lib.hid (by have:=HBY.out;omega)
    rw [HX.out,Int.toNat_natCast] at hcell
    generalize hxx : (rd l (i : Int)).toNat = x at hcell
    have HXX : Hid (x = (rd l (i : Int)).toNat ∧ x < 256):=Lib.hid ⟨hxx.symm,by have:=HBY.out;omega⟩
    have hx256 : x < 256:=HXX.out.2
    clear hxx
    go_wp2_with (fail)
    ((with_reducible refine (impl_letters_number.at (x : Int) 8 _ _ _ x 8 w.heap.size _ HBW.out.ptr HBW.out.row HBW.out.below.size rfl ?hu rfl (by omega) ?hl).mono ?_);(case hu => omega);(case hl => have h1:=headL_length false id rtr;have h2:=dataL_length (l.take i);have h3:=HL.out;simp [numL_length] at h1 h2 ⊢;omega);rintro e w' ⟨rfl,v',hq1,hq2,hq3⟩;have HN:=Lib.hid (HBW.out.step (by decide) hq1 hq2 hq3);clear hq1 hq2 hq3)
    go_wp2_with (fail)
    go_roundw
    case rel => exact ⟨i + 1,_,hlt,⟨by have h:=HN.out;rw [HXX.out.1] at h;rw [take_next l i hlt,dataL_snoc];simpa [List.append_assoc] using h⟩,by go_num⟩
    case measure => simp [intOf];omega
   ·obtain rfl : i = l.length:=by omega
    have hcv:=RowM.string (P:=Try.prog) Try.underlying107 Try.underlying5 Try.underlying9 HBW.out.row
    go_wp2
    go_ret
    exact ⟨by rw [bodyL,List.append_assoc];rfl,HBW.out.below⟩
 ·go_enter Try.func15,Try.ntmps15
  go_wp2_with (fail)
  (refine (impl_ValidFrame.calls true id rtr dlc A c l true _ (Kd.C_below HR.out ((Below.refl _ _).alloc (Nat.le_refl _) _)) HC.out HV.out).mono ?_;rintro e w1 ⟨rfl,hb1⟩;have HB1:=Lib.hid hb1;clear hb1;have HBW : Hid (BW 5 107 w (w1.alloc (.cells #[.slice none 0 0] 107)) w.heap.size w1.heap.size #[.bool true, .int .u32 id, .bool rtr, .int .i64 dlc, .slice A l.length c] 25 (.slice none 0 0) []):=Lib.hid ⟨blk_alloc (blk_below (blk_new w _) HB1.out) _,blk_new _ _,RowM.nil _ _ _,((Below.refl _ _).alloc (Nat.le_refl _) _).trans ⟨HB1.out.os,HB1.out.tape,HB1.out.output,HB1.out.size,fun k hk => HB1.out.block k (by simp;omega)⟩ |>.alloc (by have:=HB1.out.size;simp at this;omega) _,Nat.le_refl _,by have:=HB1.out.size;simp at this;omega,by have:=HB1.out.size;simp at this;omega⟩;have hc0:=blk_cell HBW.out.box 0;have hc1:=blk_cell HBW.out.box 1;have hc2:=blk_cell HBW.out.box 2;have hc3:=blk_cell HBW.out.box 3;have hc4:=blk_cell HBW.out.box 4;simp only [box5_0,box5_1,box5_2,box5_3,box5_4] at hc0 hc1 hc2 hc3 hc4)
  go_wp2_with (fail)
  ((with_reducible refine (impl_letters_number.at 0 1 _ _ _ 0 1 w.heap.size _ HBW.out.ptr HBW.out.row HBW.out.below.size rfl ?hu rfl (by omega) ?hl).mono ?_);(case hu => omega);(case hl => simp [numL_length,flagL]);rintro e w' ⟨rfl,v',hq1,hq2,hq3⟩;have HN:=Lib.hid (HBW.out.step (by decide) hq1 hq2 hq3);clear hq1 hq2 hq3 hc0 hc1 hc2 hc3 hc4 HBW;have HBW:=HN;clear HN;have hc0:=blk_cell HBW.out.box 0;have hc1:=blk_cell HBW.out.box 1;have hc2:=blk_cell HBW.out.box 2;have hc3:=blk_cell HBW.out.box 3;have hc4:=blk_cell HBW.out.box 4;simp only [box5_0,box5_1,box5_2,box5_3,box5_4] at hc0 hc1 hc2 hc3 hc4)
  go_wp2_with (fail)
  ((with_reducible refine (impl_letters_number.at (id / 262144) 11 _ _ _ (id.toNat / 262144) 11 w.heap.size _ HBW.out.ptr HBW.out.row HBW.out.below.size HU2.out ?hu rfl (by omega) ?hl).mono ?_);(case hu => omega);(case hl => simp [numL_length,flagL]);rintro e w' ⟨rfl,v',hq1,hq2,hq3⟩;have HN:=Lib.hid (HBW.out.step (by decide) hq1 hq2 hq3);clear hq1 hq2 hq3 hc0 hc1 hc2 hc3 hc4 HBW;have HBW:=HN;clear HN;have hc0:=blk_cell HBW.out.box 0;have hc1:=blk_cell HBW.out.box 1;have hc2:=blk_cell HBW.out.box 2;have hc3:=blk_cell HBW.out.box 3;have hc4:=blk_cell HBW.out.box 4;simp only [box5_0,box5_1,box5_2,box5_3,box5_4] at hc0 hc1 hc2 hc3 hc4)
  go_wp2_with (fail)
  ((with_reducible refine (impl_letters_number.at 3 2 _ _ _ 3 2 w.heap.size _ HBW.out.ptr HBW.out.row HBW.out.below.size rfl ?hu rfl (by omega) ?hl).mono ?_);(case hu => omega);(case hl => simp [numL_length,flagL]);rintro e w' ⟨rfl,v',hq1,hq2,hq3⟩;have HN:=Lib.hid (HBW.out.step (by decide) hq1 hq2 hq3);clear hq1 hq2 hq3 hc0 hc1 hc2 hc3 hc4 HBW;have HBW:=HN;clear HN;have hc0:=blk_cell HBW.out.box 0;have hc1:=blk_cell HBW.out.box 1;have hc2:=blk_cell HBW.out.box 2;have hc3:=blk_cell HBW.out.box 3;have hc4:=blk_cell HBW.out.box 4;simp only [box5_0,box5_1,box5_2,box5_3,box5_4] at hc0 hc1 hc2 hc3 hc4)
  go_wp2_with (fail)
  ((with_reducible refine (impl_letters_number.at id 18 _ _ _ id.toNat 18 w.heap.size _ HBW.out.ptr HBW.out.row HBW.out.below.size HU.out ?hu rfl (by omega) ?hl).mono ?_);(case hu => omega);(case hl => simp [numL_length,flagL]);rintro e w' ⟨rfl,v',hq1,hq2,hq3⟩;have HN:=Lib.hid (HBW.out.step (by decide) hq1 hq2 hq3);clear hq1 hq2 hq3 hc0 hc1 hc2 hc3 hc4 HBW;have HBW:=HN;clear HN;have hc0:=blk_cell HBW.out.box 0;have hc1:=blk_cell HBW.out.box 1;have hc2:=blk_cell HBW.out.box 2;have hc3:=blk_cell HBW.out.box 3;have hc4:=blk_cell HBW.out.box 4;simp only [box5_0,box5_1,box5_2,box5_3,box5_4] at hc0 hc1 hc2 hc3 hc4)
  go_wp2_with (fail)
  ((with_reducible refine (impl_letters_flag.calls _ _ _ rtr w.heap.size _ HBW.out.ptr HBW.out.row HBW.out.below.size ?hl).mono ?_);(case hl => simp [numL_length,flagL]);rintro e w' ⟨rfl,v',hq1,hq2,hq3⟩;have HN:=Lib.hid (HBW.out.step (by decide) hq1 hq2 hq3);clear hq1 hq2 hq3 hc0 hc1 hc2 hc3 hc4 HBW;have HBW:=HN;clear HN;have hc0:=blk_cell HBW.out.box 0;have hc1:=blk_cell HBW.out.box 1;have hc2:=blk_cell HBW.out.box 2;have hc3:=blk_cell HBW.out.box 3;have hc4:=blk_cell HBW.out.box 4;simp only [box5_0,box5_1,box5_2,box5_3,box5_4] at hc0 hc1 hc2 hc3 hc4)
  go_wp2_with (fail)
  ((with_reducible refine (impl_letters_number.at 0 2 _ _ _ 0 2 w.heap.size _ HBW.out.ptr HBW.out.row HBW.out.below.size rfl ?hu rfl (by omega) ?hl).mono ?_);(case hu => omega);(case hl => simp [numL_length,flagL]);rintro e w' ⟨rfl,v',hq1,hq2,hq3⟩;have HN:=Lib.hid (HBW.out.step (by decide) hq1 hq2 hq3);clear hq1 hq2 hq3 hc0 hc1 hc2 hc3 hc4 HBW;have HBW:=HN;clear HN;have hc0:=blk_cell HBW.out.box 0;have hc1:=blk_cell HBW.out.box 1;have hc2:=blk_cell HBW.out.box 2;have hc3:=blk_cell HBW.out.box 3;have hc4:=blk_cell HBW.out.box 4;simp only [box5_0,box5_1,box5_2,box5_3,box5_4] at hc0 hc1 hc2 hc3 hc4)
  go_wp2_with (fail)
  ((with_reducible refine (impl_letters_number.at dlc 4 _ _ _ dlc.toNat 4 w.heap.size _ HBW.out.ptr HBW.out.row HBW.out.below.size HD.out ?hu rfl (by omega) ?hl).mono ?_);(case hu => omega);(case hl => simp [numL_length,flagL]);rintro e w' ⟨rfl,v',hq1,hq2,hq3⟩;have HN:=Lib.hid (HBW.out.step (by decide) hq1 hq2 hq3);clear hq1 hq2 hq3 hc0 hc1 hc2 hc3 hc4 HBW;have HBW:=HN;clear HN;have hc0:=blk_cell HBW.out.box 0;have hc1:=blk_cell HBW.out.box 1;have hc2:=blk_cell HBW.out.box 2;have hc3:=blk_cell HBW.out.box 3;have hc4:=blk_cell HBW.out.box 4;simp only [box5_0,box5_1,box5_2,box5_3,box5_4] at hc0 hc1 hc2 hc3 hc4)
  go_wp2_with (fail)
  have HBW' : Hid (BW 5 107 w _ w.heap.size w1.heap.size _ 25 _ (headL true id rtr ++ numL dlc.toNat 4 ++ dataL (l.take 0))):=Lib.hid (by have h:=HBW.out;simpa [headL,dataL,flagL] using h)
  clear hc0 hc1 hc2 hc3 hc4 HBW
  go_loopw [38] (fun v38 wr => ∃ (i : Nat) (v : Value),i ≤ l.length ∧ Aside0 (BW 5 107 w wr w.heap.size w1.heap.size #[.bool true, .int .u32 id, .bool rtr, .int .i64 dlc, .slice A l.length c] 25 v (headL true id rtr ++ numL dlc.toNat 4 ++ dataL (l.take i))) ∧ v38 = .int .i64 i) (fun v38 _ => l.length - (intOf v38).toNat)
  case atStart => exact ⟨0,_,Nat.zero_le _,⟨HBW'.out⟩,rfl⟩
  case round =>
   obtain ⟨i,v,hi,HBW,rfl⟩:=hrel
   have hptr:=blk_cell HBW.out.ptr 0
   simp only [box1_0] at hptr
   by_cases hlt : i < l.length
   ·obtain ⟨ad,ea,hcell⟩:=Kd.at_int (Kd.C_below HR.out HBW.out.below) (i : Int) (by omega) (by omega)
    subst ea
    have HBY:=Lib.hid (okBytes_at HOB.out i hlt)
    have HX : Hid (rd l (i : Int) = ((rd l (i : Int)).toNat : Int)):=Lib.hid (by have:=HBY.out;omega)
    rw [HX.out,Int.toNat_natCast] at hcell
    generalize hxx : (rd l (i : Int)).toNat = x at hcell
    have HXX : Hid (x = (rd l (i : Int)).toNat ∧ x < 256):=Lib.hid ⟨hxx.symm,by have:=HBY.out;omega⟩
    have hx256 : x < 256:=HXX.out.2
    clear hxx
    go_wp2_with (fail)
    ((with_reducible refine (impl_letters_number.at (x : Int) 8 _ _ _ x 8 w.heap.size _ HBW.out.ptr HBW.out.row HBW.out.below.size rfl ?hu rfl (by omega) ?hl).mono ?_);(case hu => omega);(case hl => have h1:=headL_length true id rtr;have h2:=dataL_length (l.take i);have h3:=HL.out;simp [numL_length] at h1 h2 ⊢;omega);rintro e w' ⟨rfl,v',hq1,hq2,hq3⟩;have HN:=Lib.hid (HBW.out.step (by decide) hq1 hq2 hq3);clear hq1 hq2 hq3)
    go_wp2_with (fail)
    go_roundw
    case rel => exact ⟨i + 1,_,hlt,⟨by have h:=HN.out;rw [HXX.out.1] at h;rw [take_next l i hlt,dataL_snoc];simpa [List.append_assoc] using h⟩,by go_num⟩
    case measure => simp [intOf];omega
   ·obtain rfl : i = l.length:=by omega
    have hcv:=RowM.string (P:=Try.prog) Try.underlying107 Try.underlying5 Try.underlying9 HBW.out.row
    go_wp2
    go_ret
    exact ⟨by rw [bodyL,List.append_assoc];rfl,HBW.out.below⟩
theorem impl_Body.calls (a0_0 : Bool) (a0_1 : Int) (a0_2 : Bool) (a0_3 : Int) (A0_4 : Option Addr) (c0_4 : Nat) (l0_4 : List Int) (r : ByteArray) (w : World) (hr0_4 : Kd.C (Kd.int .u8) w A0_4 l0_4.length l0_4) (hc0_4 : l0_4.length ≤ c0_4) (h : impl_Body.f a0_0 a0_1 a0_2 a0_3 l0_4 = some r) :
  Calls Try.prog 15 #[.agg #[.bool a0_0, .int .u32 a0_1, .bool a0_2, .int .i64 a0_3, .slice A0_4 l0_4.length c0_4]] w fun e w' => e = .returned (.string r) ∧ Below w.heap.size w w':=by
 unfold impl_Body.f at h
 by_cases c : 0 ≤ a0_1 ∧ okBytes l0_4 = true
 ·rw [if_pos c] at h
  have hr:=(Option.some.inj h).symm
  unfold bodyV at hr
  cases hv : validF a0_0 a0_1 a0_2 a0_3 l0_4.length with
  | true =>
   rw [hv,if_pos rfl] at hr
   subst hr
   exact impl_Body.yes a0_0 a0_1 a0_2 a0_3 A0_4 c0_4 l0_4 w hr0_4 hc0_4 c.1 c.2 hv
  | false =>
   rw [hv,if_neg (by decide)] at hr
   subst hr
   have HV : Hid (impl_ValidFrame.f a0_0 a0_1 a0_2 a0_3 l0_4 = some false):=Lib.hid (by unfold impl_ValidFrame.f;rw [hv])
   have HR:=Lib.hid hr0_4
   have HC:=Lib.hid hc0_4
   clear hv h c hr0_4 hc0_4
   go_enter Try.func15,Try.ntmps15
   go_wp2_with (fail)
   (refine (impl_ValidFrame.calls a0_0 a0_1 a0_2 a0_3 A0_4 c0_4 l0_4 false _ (Kd.C_below HR.out ((Below.refl _ _).alloc (Nat.le_refl _) _)) HC.out HV.out).mono ?_;rintro e w1 ⟨rfl,hb1⟩;have HB1:=Lib.hid hb1;clear hb1)
   go_wp2
   go_ret
   exact ⟨rfl,((Below.refl _ _).alloc (Nat.le_refl _) _).trans ⟨HB1.out.os,HB1.out.tape,HB1.out.output,HB1.out.size,fun k hk => HB1.out.block k (by simp;omega)⟩⟩
 ·rw [if_neg c] at h;cases h
end Go.Proofs.Ytdoclpgciadjaaa.P

namespace Go.Proofs.Ytdoclpgciadjaaa.P
open Go.RowKit Go.Proofs.YtdoclpgciadjaaaW.PrintWords Go.Proofs.YtdoclpgciadjaaaW.PrintLast Go.Proofs.YtdoclpgciadjaaaW.PrintMore
set_option linter.unusedVariables false
set_option linter.unusedSimpArgs false
def spec_l1num.f : Nat → Int → Int → Option (ByteArray)
 | 0,_,_ => none
 | k + 1,a0,a1 => if a1 ≤ 0 then (some (⟨#[]⟩ : ByteArray)) else (if (Int.tmod a0 2) = 1 then ((spec_l1num.f k (wrap64 (Int.tdiv a0 2)) (wrap64 (a1 - 1))).bind fun t173 => (if t173.size + 1 ≤ 9223372036854775807 then (some (t173 ++ (⟨#[49]⟩ : ByteArray))) else (none))) else ((spec_l1num.f k (wrap64 (Int.tdiv a0 2)) (wrap64 (a1 - 1))).bind fun t174 => (if t174.size + 1 ≤ 9223372036854775807 then (some (t174 ++ (⟨#[48]⟩ : ByteArray))) else (none))))
set_option maxHeartbeats 8000000 in
set_option maxRecDepth 100000 in
theorem spec_l1num.calls (k : Nat) : ∀ (a0 : Int) (a1 : Int) (r : ByteArray) (w : World) (h : spec_l1num.f k a0 a1 = some r),
  Calls Try.prog 79 #[.int .i64 a0, .int .i64 a1] w fun e w' => e = .returned (.string r) ∧ Drawn0 w w':=by
 induction k using Nat.strongRecOn with
 | _ k ih =>
 intro a0 a1 r w h
 cases k with
 | zero => exact absurd h (by simp [spec_l1num.f])
 | succ k =>
 simp only [spec_l1num.f] at h
 have H : (if a1 ≤ 0 then (some (⟨#[]⟩ : ByteArray)) else (if (Int.tmod a0 2) = 1 then ((spec_l1num.f k (wrap64 (Int.tdiv a0 2)) (wrap64 (a1 - 1))).bind fun t173 => (if t173.size + 1 ≤ 9223372036854775807 then (some (t173 ++ (⟨#[49]⟩ : ByteArray))) else (none))) else ((spec_l1num.f k (wrap64 (Int.tdiv a0 2)) (wrap64 (a1 - 1))).bind fun t174 => (if t174.size + 1 ≤ 9223372036854775807 then (some (t174 ++ (⟨#[48]⟩ : ByteArray))) else (none))))) = some r:=h
 clear h
 by_cases c3 : a1 ≤ 0
 ·rw [if_pos c3] at H
  have c3b0 : decide (a1 ≤ 0) = true:=decide_eq_true c3
  clear c3
  obtain rfl:=Option.some.inj H
  go_enter Try.func79,Try.ntmps79
  go_wp2
  go_ret
  exact ⟨by first | rfl | (simp;done) | (simp [*];done),by repeat (first | exact Drawn0.refl _ | apply Drawn0.step)⟩
 ·rw [if_neg c3] at H
  have c3b0 : decide (a1 ≤ 0) = false:=decide_eq_false c3
  clear c3
  by_cases c4 : (Int.tmod a0 2) = 1
  ·rw [if_pos c4] at H
   have c4b0 : ((Int.tmod a0 2) == 1) = true:=beq_iff_eq.mpr c4
   have c4b1 : ((Int.tmod a0 2) != 1) = false:=bne_eq_false_iff_eq.mpr c4
   clear c4
   replace H:=Option.bind_eq_some_iff.mp H
   obtain ⟨t173,A50,H⟩:=H
   replace H : (if t173.size + 1 ≤ 9223372036854775807 then (some (t173 ++ (⟨#[49]⟩ : ByteArray))) else (none)) = some r:=H
   have A5:=Aside0.mk A50
   clear A50
   by_cases c6 : t173.size + 1 ≤ 9223372036854775807
   ·rw [if_pos c6] at H
    have c6b0:=eq_true c6
    have c6b1 : decide (t173.size + 1 ≤ 9223372036854775807) = true:=decide_eq_true c6
    try have c6b2 : (9223372036854775807 < t173.size + 1) = False:=eq_false (Nat.not_lt.2 c6)
    obtain rfl:=Option.some.inj H
    go_enter Try.func79,Try.ntmps79
    go_wp2_with (first | ((with_reducible refine gate_callee (f:=79) rfl ?_);refine goesL_ (some 15) rfl rfl Try.func79 (by kernel_rfl) rfl #[.int .i64 (wrap64 (Int.tdiv a0 2)), .int .i64 (wrap64 (a1 - 1))] rfl (by (try simp only [List.map_toArray,List.map_cons,List.map_nil]);first | done | rfl | (simp only [List.length_drop,List.length_take];rfl)) ?_;(with_reducible refine (ih k (by omega) (wrap64 (Int.tdiv a0 2)) (wrap64 (a1 - 1)) t173 _ A5.out).mono ?_);rintro e w' ⟨rfl,⟨nd,rfl⟩⟩;refine ⟨_,rfl, ?_⟩))
    go_ret
    exact ⟨by first | rfl | (simp;done) | (simp [*];done),by repeat (first | exact Drawn0.refl _ | apply Drawn0.step)⟩
   ·rw [if_neg c6] at H
    exact absurd H (by simp)
  ·rw [if_neg c4] at H
   have c4b0 : ((Int.tmod a0 2) == 1) = false:=beq_eq_false_iff_ne.mpr c4
   have c4b1 : ((Int.tmod a0 2) != 1) = true:=bne_iff_ne.mpr c4
   replace H:=Option.bind_eq_some_iff.mp H
   obtain ⟨t174,A70,H⟩:=H
   replace H : (if t174.size + 1 ≤ 9223372036854775807 then (some (t174 ++ (⟨#[48]⟩ : ByteArray))) else (none)) = some r:=H
   have A7:=Aside0.mk A70
   clear A70
   by_cases c8 : t174.size + 1 ≤ 9223372036854775807
   ·rw [if_pos c8] at H
    have c8b0:=eq_true c8
    have c8b1 : decide (t174.size + 1 ≤ 9223372036854775807) = true:=decide_eq_true c8
    try have c8b2 : (9223372036854775807 < t174.size + 1) = False:=eq_false (Nat.not_lt.2 c8)
    obtain rfl:=Option.some.inj H
    go_enter Try.func79,Try.ntmps79
    go_wp2_with (first | ((with_reducible refine gate_callee (f:=79) rfl ?_);refine goesL_ (some 15) rfl rfl Try.func79 (by kernel_rfl) rfl #[.int .i64 (wrap64 (Int.tdiv a0 2)), .int .i64 (wrap64 (a1 - 1))] rfl (by (try simp only [List.map_toArray,List.map_cons,List.map_nil]);first | done | rfl | (simp only [List.length_drop,List.length_take];rfl)) ?_;(with_reducible refine (ih k (by omega) (wrap64 (Int.tdiv a0 2)) (wrap64 (a1 - 1)) t174 _ A7.out).mono ?_);rintro e w' ⟨rfl,⟨nd,rfl⟩⟩;refine ⟨_,rfl, ?_⟩))
    go_ret
    exact ⟨by first | rfl | (simp;done) | (simp [*];done),by repeat (first | exact Drawn0.refl _ | apply Drawn0.step)⟩
   ·rw [if_neg c8] at H
    exact absurd H (by simp)
end Go.Proofs.Ytdoclpgciadjaaa.P

namespace Go.Proofs.Ytdoclpgciadjaaa.P
open Go.RowKit Go.Proofs.YtdoclpgciadjaaaW.PrintWords Go.Proofs.YtdoclpgciadjaaaW.PrintLast Go.Proofs.YtdoclpgciadjaaaW.PrintMore
set_option linter.unusedVariables false
set_option linter.unusedSimpArgs false
def spec_l1flag.f (a0 : Bool) : Option (ByteArray):=if a0 = true then (some (⟨#[49]⟩ : ByteArray)) else (some (⟨#[48]⟩ : ByteArray))
set_option maxHeartbeats 8000000 in
set_option maxRecDepth 100000 in
theorem spec_l1flag.calls (a0 : Bool) (r : ByteArray) (w : World) (h : spec_l1flag.f a0 = some r) :
  Calls Try.prog 80 #[.bool a0] w fun e w' => e = .returned (.string r) ∧ Drawn0 w w':=by
 have H : (if a0 = true then (some (⟨#[49]⟩ : ByteArray)) else (some (⟨#[48]⟩ : ByteArray))) = some r:=h
 clear h
 by_cases c2 : a0 = true
 ·subst c2
  have H1 : (some (⟨#[49]⟩ : ByteArray)) = some r:=by rw [if_pos rfl] at H;exact H
  clear H
  have H:=H1
  clear H1
  obtain rfl:=Option.some.inj H
  go_enter Try.func80,Try.ntmps80
  go_wp2
  go_ret
  exact ⟨by first | rfl | (simp;done) | (simp [*];done),by repeat (first | exact Drawn0.refl _ | apply Drawn0.step)⟩
 ·replace c2:=Bool.eq_false_iff.mpr c2
  subst c2
  have H1 : (some (⟨#[48]⟩ : ByteArray)) = some r:=by rw [if_neg (show ¬ (false = true) by decide)] at H;exact H
  clear H
  have H:=H1
  clear H1
  obtain rfl:=Option.some.inj H
  go_enter Try.func80,Try.ntmps80
  go_wp2
  go_ret
  exact ⟨by first | rfl | (simp;done) | (simp [*];done),by repeat (first | exact Drawn0.refl _ | apply Drawn0.step)⟩
end Go.Proofs.Ytdoclpgciadjaaa.P

namespace Go.Proofs.Ytdoclpgciadjaaa.P
open Go Go.RowKit Go.Proofs.YtdoclpgciadjaaaW.PrintWords
set_option linter.unusedVariables false
def crcN (r b : Nat) : Nat:=if (r / 16384) ^^^ b = 1 then (2 * r % 32768) ^^^ 17817 else 2 * r % 32768
theorem bits_xor_i64 (a b : Nat) (ha : a < 2 ^ 62) (hb : b < 2 ^ 62) : bits .xor .i64 (a : Int) (b : Int) = ((a ^^^ b : Nat) : Int):=by
 have hp : (2 : Nat) ^ 62 ≤ 2 ^ IntKind.i64.bits:=Nat.pow_le_pow_right (by decide) (by decide)
 have ha' : a % 2 ^ IntKind.i64.bits = a:=Nat.mod_eq_of_lt (Nat.lt_of_lt_of_le ha hp)
 have hb' : b % 2 ^ IntKind.i64.bits = b:=Nat.mod_eq_of_lt (Nat.lt_of_lt_of_le hb hp)
 simp only [bits,BitVec.ofInt_natCast,BitVec.toNat_xor,BitVec.toNat_ofNat,ha',hb']
 have h:=Nat.xor_lt_two_pow ha hb
 rw [IntKind.wrap_i64]
 omega
theorem bits_and_i64 (a b : Nat) (ha : a < 2 ^ 62) (hb : b < 2 ^ 62) : bits .and .i64 (a : Int) (b : Int) = ((a &&& b : Nat) : Int) :=
 (bits_nat .i64 62 (by decide) (fun n h0 h1 => by rw [IntKind.wrap_i64];omega) a b ha hb).1
theorem crcI_nat (r b : Nat) (hr : r < 32768) (hb : b ≤ 1) : crcI r b = crcN r b:=by
 have h1 : ((r : Int) / 16384) = ((r / 16384 : Nat) : Int):=by omega
 have h2 : bits .and .i64 ((r : Int) / 16384) 1 = ((r / 16384 : Nat) : Int):=by
  rw [h1]
  have:=bits_and_i64 (r / 16384) 1 (by omega) (by decide)
  rw [show ((1 : Nat) : Int) = 1 from rfl] at this
  rw [this,Nat.and_one_is_mod]
  omega
 have h3 : bits .and .i64 (wrap64 ((r : Int) * 2)) 32767 = ((2 * r % 32768 : Nat) : Int):=by
  have hw : wrap64 ((r : Int) * 2) = ((2 * r : Nat) : Int):=by unfold wrap64;omega
  rw [hw]
  have:=bits_and_i64 (2 * r) 32767 (by omega) (by decide)
  rw [show ((32767 : Nat) : Int) = 32767 from rfl] at this
  rw [this,show (32767 : Nat) = 2 ^ 15 - 1 from rfl,Nat.and_two_pow_sub_one_eq_mod]
 have h4 : bits .xor .i64 ((r / 16384 : Nat) : Int) (b : Int) = ((r / 16384 ^^^ b : Nat) : Int):=bits_xor_i64 _ _ (by omega) (by omega)
 have h5 : bits .xor .i64 ((2 * r % 32768 : Nat) : Int) 17817 = ((2 * r % 32768 ^^^ 17817 : Nat) : Int):=bits_xor_i64 _ 17817 (by omega) (by decide)
 unfold crcI crcN
 rw [h2,h3,h4,h5]
 by_cases c : r / 16384 ^^^ b = 1
 ·rw [if_pos c,if_pos (by rw [c];rfl)]
 ·rw [if_neg c,if_neg (by omega)]
theorem crcN_lt (r b : Nat) : crcN r b < 32768:=by
 unfold crcN
 split
 ·exact Nat.xor_lt_two_pow (n:=15) (by omega) (by decide)
 ·omega
def bitN (c : Int) : Nat:=if c = 49 then 1 else 0
def bitB (c : Int) : Bool:=decide (c = 49)
def crcL (l : List Int) : Nat:=l.foldl (fun r c => crcN r (bitN c)) 0
theorem crcL_snoc (l : List Int) (c : Int) : crcL (l ++ [c]) = crcN (crcL l) (bitN c):=by
 unfold crcL;rw [List.foldl_append];rfl
theorem snoc_ind {α : Type} {p : List α → Prop} (h0 : p []) (h1 : ∀ l c,p l → p (l ++ [c])) (l : List α) : p l:=by
 have key : ∀ m : List α,p m.reverse:=by
  intro m
  induction m with
  | nil => exact h0
  | cons a m ih => rw [List.reverse_cons];exact h1 _ _ ih
 have:=key l.reverse
 rwa [List.reverse_reverse] at this
theorem crcL_lt (l : List Int) : crcL l < 32768:=by
 induction l using snoc_ind with
 | h0 => decide
 | h1 l c _ => rw [crcL_snoc];exact crcN_lt _ _
theorem crcI_list (l : List Int) (hl : ∀ c ∈ l,c = 48 ∨ c = 49) : l.foldl (fun r c => crcI r (c - 48)) 0 = (crcL l : Int):=by
 induction l using snoc_ind with
 | h0 => rfl
 | h1 l c ih =>
  rw [List.foldl_append,ih (fun x hx => hl x (List.mem_append_left _ hx)),crcL_snoc,List.foldl_cons,List.foldl_nil]
  rcases hl c (by simp) with rfl | rfl
  ·exact crcI_nat _ 0 (crcL_lt l) (by decide)
  ·exact crcI_nat _ 1 (crcL_lt l) (by decide)
theorem crcN_testBit (r b : Nat) (hr : r < 32768) (hb : b ≤ 1) (j : Nat) (hj : j < 15) :
  (crcN r b).testBit j = (((decide (0 < j)) && r.testBit (j - 1)) ^^ ((r.testBit 14 ^^ decide (b = 1)) && Nat.testBit 17817 j)):=by
 have h14 : r.testBit 14 = decide (r / 16384 = 1):=by
  rw [Nat.testBit_eq_decide_div_mod_eq]
  congr 1
  have : r / 2 ^ 14 % 2 = r / 16384:=by omega
  rw [this]
 have hy : (2 * r % 32768).testBit j = (decide (0 < j) && r.testBit (j - 1)):=by
  rw [show (32768 : Nat) = 2 ^ 15 from rfl,Nat.testBit_mod_two_pow,show 2 * r = r <<< 1 by omega,Nat.testBit_shiftLeft]
  simp [hj]
  rfl
 have hx : (r / 16384 ^^^ b = 1) ↔ (r.testBit 14 ^^ decide (b = 1)) = true:=by
  rw [h14]
  have h0 : r / 16384 = 0 ∨ r / 16384 = 1:=by omega
  have h1 : b = 0 ∨ b = 1:=by omega
  rcases h0 with h0 | h0 <;> rcases h1 with h1 | h1 <;> rw [h0,h1] <;> decide
 unfold crcN
 by_cases c : r / 16384 ^^^ b = 1
 ·rw [if_pos c,Nat.testBit_xor,hy,hx.1 c,Bool.true_and]
 ·rw [if_neg c,hy]
  have : (r.testBit 14 ^^ decide (b = 1)) = false:=by
   cases h : (r.testBit 14 ^^ decide (b = 1)) with
   | false => rfl
   | true => exact absurd (hx.2 h) c
  rw [this];simp
end Go.Proofs.Ytdoclpgciadjaaa.P

namespace Go.Proofs.Ytdoclpgciadjaaa.P
open Go Go.RowKit Go.Proofs.YtdoclpgciadjaaaW.PrintWords
set_option linter.unusedVariables false
theorem text_ext {a b : ByteArray} (h : a.data.toList = b.data.toList) : a = b:=by
 cases a;cases b
 exact congrArg ByteArray.mk (Array.toList_inj.1 h)
theorem str_append (a b : List Int) : strOfNums (a ++ b) = strOfNums a ++ strOfNums b:=by
 apply text_ext
 rw [Joins.data_append,strOfNums_data,strOfNums_data,strOfNums_data,List.map_append]
theorem str_extract_left (a b : List Int) : (strOfNums (a ++ b)).extract 0 a.length = strOfNums a:=by
 apply text_ext
 rw [Lib.extract_data,strOfNums_data,strOfNums_data,List.drop_zero,List.map_append,Nat.sub_zero]
 exact List.take_left' (by simp)
theorem str_extract_right (a b : List Int) : (strOfNums (a ++ b)).extract a.length (strOfNums (a ++ b)).size = strOfNums b:=by
 apply text_ext
 rw [Lib.extract_data,strOfNums_data,strOfNums_data,List.map_append,List.drop_left' (by simp),strOfNums_size,List.length_append,List.take_of_length_le (by simp)]
theorem bytes_str (l : List Int) (h : ∀ x ∈ l,0 ≤ x ∧ x < 256) : bytesOf (strOfNums l) = l:=by
 unfold bytesOf
 rw [strOfNums_data,List.map_map]
 conv => rhs;rw [← List.map_id l]
 refine List.map_congr_left fun x hx => ?_
 have:=h x hx
 simp only [Function.comp,id]
 rw [UInt8.toNat_ofNat_of_lt' (show x.toNat < UInt8.size by simp [UInt8.size];omega)]
 omega
theorem numL_snoc (u n : Nat) : numL u (n + 1) = numL (u / 2) n ++ [48 + ((u % 2 : Nat) : Int)]:=by
 induction n with
 | zero => simp [numL]
 | succ n ih =>
  rw [numL,ih,numL,List.cons_append]
  congr 3
  rw [Nat.div_div_eq_div_mul,Nat.pow_succ,Nat.mul_comm]
theorem numL_add (u a b : Nat) : numL u (a + b) = numL (u / 2 ^ b) a ++ numL u b:=by
 induction a with
 | zero => rw [Nat.zero_add];rfl
 | succ a ih =>
  rw [show a + 1 + b = (a + b) + 1 by omega,numL,ih,numL,List.cons_append,Nat.div_div_eq_div_mul, ← Nat.pow_add,Nat.add_comm b a]
theorem numL_bits (u n : Nat) : ∀ x ∈ numL u n,x = 48 ∨ x = 49:=by
 induction n with
 | zero => intro x hx;cases hx
 | succ n ih =>
  intro x hx
  rw [numL] at hx
  rcases List.mem_cons.1 hx with rfl | hx
  ·have : u / 2 ^ n % 2 < 2:=Nat.mod_lt _ (by decide)
   omega
  ·exact ih x hx
def Bits (l : List Int) : Prop := ∀ x ∈ l,x = 48 ∨ x = 49
theorem Bits.range {l : List Int} (h : Bits l) : ∀ x ∈ l,0 ≤ x ∧ x < 256:=fun x hx => by rcases h x hx with rfl | rfl <;> omega
theorem Bits.append {a b : List Int} (h : Bits a) (k : Bits b) : Bits (a ++ b):=fun x hx => (List.mem_append.1 hx).elim (h x) (k x)
theorem isBits_str {l : List Int} (h : Bits l) : isBits (strOfNums l) = true:=by
 unfold isBits
 rw [strOfNums_data,List.all_map,List.all_eq_true]
 intro x hx
 rcases h x hx with rfl | rfl <;> rfl
theorem crcOf_str {l : List Int} (h : Bits l) : crcOf (strOfNums l) = (crcL l : Int):=by
 unfold crcOf
 rw [bytes_str l h.range]
 exact crcI_list l h
theorem flagL_bits (b : Bool) : Bits (flagL b):=by cases b <;> intro x hx <;> simp [flagL,b2] at hx <;> omega
theorem dataL_bits (l : List Int) : Bits (dataL l):=by
 intro x hx
 obtain ⟨y,_,hy⟩:=List.mem_flatMap.1 hx
 exact numL_bits _ _ x hy
theorem bodyL_bits (ext : Bool) (id : Int) (rtr : Bool) (dlc : Int) (l : List Int) : Bits (bodyL ext id rtr dlc l):=by
 unfold bodyL headL
 refine ((?_ : Bits _).append (numL_bits _ _)).append (dataL_bits l)
 cases ext
 ·exact (((Bits.append (numL_bits _ _) (numL_bits _ _)).append (flagL_bits rtr)).append (numL_bits _ _))
 ·exact ((((Bits.append (Bits.append (numL_bits _ _) (numL_bits _ _)) (numL_bits _ _)).append (numL_bits _ _)).append (flagL_bits rtr)).append (numL_bits _ _))
theorem bodyL_length (ext : Bool) (id : Int) (rtr : Bool) (dlc : Int) (l : List Int) (h : l.length ≤ 8) : (bodyL ext id rtr dlc l).length ≤ 103:=by
 unfold bodyL
 rw [List.length_append,List.length_append,numL_length,dataL_length]
 have:=headL_length ext id rtr
 omega
def plainL (ext : Bool) (id : Int) (rtr : Bool) (dlc : Int) (l : List Int) : List Int:=bodyL ext id rtr dlc l ++ numL (crcL (bodyL ext id rtr dlc l)) 15
theorem plainL_bits (ext : Bool) (id : Int) (rtr : Bool) (dlc : Int) (l : List Int) : Bits (plainL ext id rtr dlc l):=(bodyL_bits ext id rtr dlc l).append (numL_bits _ _)
theorem plainL_length (ext : Bool) (id : Int) (rtr : Bool) (dlc : Int) (l : List Int) (h : l.length ≤ 8) : (plainL ext id rtr dlc l).length ≤ 118:=by
 unfold plainL
 rw [List.length_append,numL_length]
 have:=bodyL_length ext id rtr dlc l h
 omega
def onesL : List Int := [49,49,49,49,49,49,49,49,49,49]
end Go.Proofs.Ytdoclpgciadjaaa.P

namespace Go.Proofs.Ytdoclpgciadjaaa.P
open Go Go.RowKit Go.Proofs.YtdoclpgciadjaaaW.PrintWords
set_option linter.unusedVariables false
theorem specValid_ev (e : Bool) (i : Int) (r : Bool) (d : Int) (l : List Int) : Ev (fun k => spec_ValidFrame.f k e i r d l) (validF e i r d l.length):=by
 have hd : ∀ a b c,spec_l1dataLen.f a b r c l = some (dataB r c):=by
  intro a b c
  unfold spec_l1dataLen.f dataB
  cases r
  ·rw [if_neg (show ¬ (false = true) by decide),if_neg (show ¬ (false = true) by decide)]
   by_cases h : c > 8
   ·rw [if_pos h,if_pos (show 8 < c from h)]
   ·rw [if_neg h,if_neg (show ¬ 8 < c from h)]
  ·rfl
 have h1 : ∀ b,Ev (fun k => spec_ValidFrame.j1 k b e i r d l) (!b && (decide (0 ≤ d) && (decide (d ≤ 15) && ((l.length : Int) == dataB r d)))):=by
  intro b
  refine Ev.step (f:=fun _ => some (!b && (decide (0 ≤ d) && (decide (d ≤ 15) && ((l.length : Int) == dataB r d))))) (fun k => ?_) (Ev.now _)
  simp only [spec_ValidFrame.j1]
  cases b
  ·rw [if_neg (by decide)]
   by_cases c1 : d < 0
   ·rw [if_pos c1,decide_eq_false (by omega)];rfl
   ·rw [if_neg c1,decide_eq_true (show 0 ≤ d by omega)]
    by_cases c2 : d > 15
    ·rw [if_pos c2,decide_eq_false (by omega)];rfl
    ·rw [if_neg c2,decide_eq_true (show d ≤ 15 by omega),hd,Option.bind_some];simp
  ·rfl
 have h0 : ∀ b,Ev (fun k => spec_ValidFrame.j0 k b e i r d l) (!b && ((e || decide (i < 2048)) && (decide (0 ≤ d) && (decide (d ≤ 15) && ((l.length : Int) == dataB r d))))):=by
  intro b
  cases b
  ·cases e
   ·refine Ev.step (fun k => ?_) (g:=fun k => spec_ValidFrame.j0 k false false i r d l) (f:=fun k => spec_ValidFrame.j1 k (decide (i ≥ 2048)) false i r d l) ?_
    ·simp only [spec_ValidFrame.j0]
     rw [if_neg (by decide),if_neg (by decide)]
    ·have:=h1 (decide (i ≥ 2048))
     have e1 : (!decide (i ≥ 2048)) = decide (i < 2048):=by
      by_cases c : i < 2048
      ·rw [decide_eq_true c,decide_eq_false (by omega)];rfl
      ·rw [decide_eq_false c,decide_eq_true (by omega)];rfl
     rw [e1] at this
     exact this
   ·refine Ev.step (fun k => ?_) (g:=fun k => spec_ValidFrame.j0 k false true i r d l) (f:=fun k => spec_ValidFrame.j1 k false true i r d l) (h1 false)
    simp only [spec_ValidFrame.j0]
    rw [if_neg (by decide),if_pos trivial]
  ·refine Ev.step (f:=fun _ => some false) (fun k => ?_) (Ev.now _)
   simp only [spec_ValidFrame.j0]
   rfl
 cases e
 ·refine Ev.congr (f:=fun k => spec_ValidFrame.j0 k false false i r d l) (fun k => ?_) (h0 false)
  unfold spec_ValidFrame.f
  rw [if_neg (by decide)]
 ·refine Ev.congr (f:=fun k => spec_ValidFrame.j0 k (decide (i ≥ 536870912)) true i r d l) (fun k => ?_) ?_
  ·unfold spec_ValidFrame.f
   rw [if_pos rfl]
  ·have:=h0 (decide (i ≥ 536870912))
   have e1 : (!decide (i ≥ 536870912)) = decide (i < 536870912):=by
    by_cases c : i < 536870912
    ·rw [decide_eq_true c,decide_eq_false (by omega)];rfl
    ·rw [decide_eq_false c,decide_eq_true (by omega)];rfl
   rw [e1,Bool.true_or,Bool.true_and] at this
   exact this
end Go.Proofs.Ytdoclpgciadjaaa.P

namespace Go.Proofs.Ytdoclpgciadjaaa.P
open Go Go.RowKit Go.Proofs.YtdoclpgciadjaaaW.PrintWords
set_option linter.unusedVariables false
theorem l1num_ev (n : Nat) : ∀ (u : Nat),u < 4294967296 → n ≤ 64 → Ev (fun k => spec_l1num.f k (u : Int) (n : Int)) (strOfNums (numL u n)):=by
 induction n with
 | zero =>
  intro u hu hn
  refine Ev.step (f:=fun _ => some (⟨#[]⟩ : ByteArray)) (fun k => ?_) (Ev.now _)
  simp only [spec_l1num.f]
  rw [if_pos (by omega)]
 | succ n ih =>
  intro u hu hn
  have ih':=ih (u / 2) (by omega) (by omega)
  have e1 : wrap64 (Int.tdiv (u : Int) 2) = ((u / 2 : Nat) : Int):=by
   rw [Int.tdiv_eq_ediv_of_nonneg (by omega)];unfold wrap64;omega
  have e2 : wrap64 (((n + 1 : Nat) : Int) - 1) = (n : Int):=by unfold wrap64;omega
  have e3 : Int.tmod (u : Int) 2 = ((u % 2 : Nat) : Int):=by rw [Int.tmod_eq_emod_of_nonneg (by omega)];omega
  have hsz : (strOfNums (numL (u / 2) n)).size + 1 ≤ 9223372036854775807:=by rw [strOfNums_size,numL_length];omega
  by_cases c : u % 2 = 1
  ·refine Ev.step (f:=fun k => (spec_l1num.f k ((u / 2 : Nat) : Int) (n : Int)).bind fun t => if t.size + 1 ≤ 9223372036854775807 then some (t ++ (⟨#[49]⟩ : ByteArray)) else none) (fun k => ?_) (Ev.bind ih' (ev_pos hsz ?_))
   ·simp only [spec_l1num.f]
    rw [if_neg (by omega),e3,if_pos (by omega),e1,e2]
   ·rw [numL_snoc,c,str_append];exact Ev.now _
  ·refine Ev.step (f:=fun k => (spec_l1num.f k ((u / 2 : Nat) : Int) (n : Int)).bind fun t => if t.size + 1 ≤ 9223372036854775807 then some (t ++ (⟨#[48]⟩ : ByteArray)) else none) (fun k => ?_) (Ev.bind ih' (ev_pos hsz ?_))
   ·simp only [spec_l1num.f]
    rw [if_neg (by omega),e3,if_neg (by omega),e1,e2]
   ·rw [numL_snoc,show u % 2 = 0 by omega,str_append];exact Ev.now _
theorem l1flag_eq (b : Bool) : spec_l1flag.f b = some (strOfNums (flagL b)):=by cases b <;> rfl
end Go.Proofs.Ytdoclpgciadjaaa.P

namespace Go.Proofs.Ytdoclpgciadjaaa.P
open Go.RowKit Go.Proofs.YtdoclpgciadjaaaW.PrintWords Go.Proofs.YtdoclpgciadjaaaW.PrintLast Go.Proofs.YtdoclpgciadjaaaW.PrintMore
set_option linter.unusedVariables false
set_option linter.unusedSimpArgs false
def spec_Body.f (a0_0 : Bool) (a0_1 : Int) (a0_2 : Bool) (a0_3 : Int) (l0_4 : List Int) : Option (ByteArray):=if 0 ≤ a0_1 ∧ okBytes l0_4 = true then some (bodyV a0_0 a0_1 a0_2 a0_3 l0_4) else none
theorem spec_l1num.at (x y : Int) (u n : Nat) (w : World) (hx : x = (u : Int)) (hu : u < 4294967296) (hy : y = (n : Int)) (hn : n ≤ 64) :
  Calls Try.prog 79 #[.int .i64 x, .int .i64 y] w fun e w' => e = .returned (.string (strOfNums (numL u n))) ∧ ∃ m,w' = w.drewN m:=by
 subst hx hy
 obtain ⟨k,hk⟩:=(l1num_ev n u hu hn).rounds
 exact (spec_l1num.calls k _ _ _ w hk).mono fun e w' ⟨he,hd⟩ => ⟨he,hd.out⟩
theorem spec_l1flag.at (b : Bool) (w : World) :
  Calls Try.prog 80 #[.bool b] w fun e w' => e = .returned (.string (strOfNums (flagL b))) ∧ ∃ m,w' = w.drewN m :=
 (spec_l1flag.calls b _ w (l1flag_eq b)).mono fun e w' ⟨he,hd⟩ => ⟨he,hd.out⟩
theorem spec_ValidFrame.at (ext : Bool) (id : Int) (rtr : Bool) (dlc : Int) (A : Option Addr) (c : Nat) (l : List Int) (w : World) (hr : Kd.C (Kd.int .u8) w A l.length l) (hc : l.length ≤ c) (b : Bool) (hv : validF ext id rtr dlc l.length = b) :
  Calls Try.prog 14 #[.agg #[.bool ext, .int .u32 id, .bool rtr, .int .i64 dlc, .slice A l.length c]] w fun e w' => e = .returned (.bool b) ∧ Below w.heap.size w w':=by
 subst hv
 obtain ⟨k,hk⟩:=(specValid_ev ext id rtr dlc l).rounds
 exact spec_ValidFrame.calls k ext id rtr dlc A c l _ w hr hc hk
theorem below_drewN {B : Nat} {a w : World} (h : Below B a w) (n : Nat) : Below B a (w.drewN n):=⟨h.os,h.tape,h.output,h.size,h.block⟩
theorem str0 : (⟨#[48]⟩ : ByteArray) = strOfNums [48]:=rfl
theorem str1 : (⟨#[49]⟩ : ByteArray) = strOfNums [49]:=rfl
theorem str00 : (⟨#[48,48]⟩ : ByteArray) = strOfNums [48,48]:=rfl
theorem text_base (id : Int) (rtr : Bool) : (⟨#[48]⟩ : ByteArray) ++ strOfNums (numL id.toNat 11) ++ strOfNums (flagL rtr) ++ ⟨#[48]⟩ ++ ⟨#[48]⟩ = strOfNums (headL false id rtr):=by
 rw [str0, ← str_append, ← str_append, ← str_append, ← str_append]
 congr 1
theorem text_ext29 (id : Int) (rtr : Bool) : (⟨#[48]⟩ : ByteArray) ++ strOfNums (numL (id.toNat / 262144) 11) ++ ⟨#[49]⟩ ++ ⟨#[49]⟩ ++ strOfNums (numL id.toNat 18) ++ strOfNums (flagL rtr) ++ ⟨#[48,48]⟩ = strOfNums (headL true id rtr):=by
 rw [str0,str1,str00, ← str_append, ← str_append, ← str_append, ← str_append, ← str_append, ← str_append]
 congr 1
theorem num29 (u : Nat) : numL u 29 = numL (u / 262144) 11 ++ numL u 18:=numL_add u 11 18
theorem text_left (u : Nat) : (strOfNums (numL u 29)).extract 0 11 = strOfNums (numL (u / 262144) 11):=by
 rw [num29]
 have:=str_extract_left (numL (u / 262144) 11) (numL u 18)
 rw [numL_length] at this
 exact this
theorem text_right (u : Nat) : (strOfNums (numL u 29)).extract 11 29 = strOfNums (numL u 18):=by
 have h:=str_extract_right (numL (u / 262144) 11) (numL u 18)
 rw [← num29,numL_length,strOfNums_size,numL_length] at h
 exact h
set_option maxHeartbeats 4000000 in
theorem spec_Body.yes (ext : Bool) (id : Int) (rtr : Bool) (dlc : Int) (A : Option Addr) (c : Nat) (l : List Int) (w : World) (hr : Kd.C (Kd.int .u8) w A l.length l) (hc : l.length ≤ c) (h0 : 0 ≤ id) (hb : okBytes l = true) (hv : validF ext id rtr dlc l.length = true) :
  Calls Try.prog 18 #[.agg #[.bool ext, .int .u32 id, .bool rtr, .int .i64 dlc, .slice A l.length c]] w fun e w' => e = .returned (.string (strOfNums (bodyL ext id rtr dlc l))) ∧ Below w.heap.size w w':=by
 obtain ⟨hid,hd0,hd1, -,hn8⟩:=valid_parts hv
 have HV:=Lib.hid hv
 have HR:=Lib.hid hr
 have HC:=Lib.hid hc
 have HOB:=Lib.hid hb
 have hid2 : id < 536870912:=by unfold vtop at hid;split at hid <;> omega
 have HID : Hid (ext = false → id < 2048):=Lib.hid (fun e => by rw [e] at hid;exact hid)
 have HU : Hid (id = (id.toNat : Int)):=Lib.hid (by omega)
 have HD : Hid (dlc = (dlc.toNat : Int)):=Lib.hid (by omega)
 have HL : Hid (l.length ≤ 8):=Lib.hid hn8
 have HM8 : Hid (l.length ≤ 9223372036854775807):=Lib.hid hr.2.1
 clear hv hr hc hb hid hn8
 cases ext
 ·go_enter Try.func18,Try.ntmps18
  go_wp2_with (fail)
  (refine (spec_ValidFrame.at false id rtr dlc A c l _ (Kd.C_below HR.out ((Below.refl _ _).alloc (Nat.le_refl _) _)) HC.out true HV.out).mono ?_;rintro e w1 ⟨rfl,hb1⟩;have HB1 : Hid (Below w.heap.size w w1):=Lib.hid (Below.trans ((Below.refl _ _).alloc (Nat.le_refl _) _) (hb1.mono (by simp)));have HBOX:=Lib.hid (blk_below (blk_new w _) hb1);clear hb1;have hc0:=blk_cell HBOX.out 0;have hc1:=blk_cell HBOX.out 1;have hc2:=blk_cell HBOX.out 2;have hc3:=blk_cell HBOX.out 3;have hc4:=blk_cell HBOX.out 4;simp only [box5_0,box5_1,box5_2,box5_3,box5_4] at hc0 hc1 hc2 hc3 hc4)
  go_wp2_with (fail)
  have hw : IntKind.i64.wrap id = id:=by rw [IntKind.wrap_i64];omega
  have hs1 : (strOfNums (numL id.toNat 11)).size = 11:=by rw [strOfNums_size,numL_length]
  have hs2 : (strOfNums (flagL rtr)).size = 1:=by rw [strOfNums_size];rfl
  go_quiet ((first | (go_at_call 79;exact Calls.quiet_of (spec_l1num.at _ 11 id.toNat 11 _ HU.out (by omega) rfl (by omega))) | (go_at_call 80;exact Calls.quiet_of (spec_l1flag.at _ _))))
  go_wp2_with (fail)
  rw [text_base]
  (refine (spec_l1num.at dlc 4 dlc.toNat 4 _ HD.out (by omega) rfl (by omega)).mono ?_;rintro e w2 ⟨rfl,m2,rfl⟩)
  have HS1 : (strOfNums (headL false id rtr)).size ≤ 35:=by rw [strOfNums_size];exact headL_length _ _ _
  have HS2 : (strOfNums (numL dlc.toNat 4)).size = 4:=by rw [strOfNums_size,numL_length]
  go_wp2_with (fail)
  have HBL:=below_drewN HB1.out
  have HBX:=HBOX.out
  clear hc0 hc1 hc2 hc3 hc4 HBOX
  go_loopw [5,3] (fun v5 v3 wr => ∃ (i : Nat),i ≤ l.length ∧ v5 = .int .i64 i ∧ v3 = .string (strOfNums (headL false id rtr ++ (numL dlc.toNat 4 ++ dataL (l.take i)))) ∧ Aside0 (Below w.heap.size w wr) ∧ Aside0 (wr.heap[w.heap.size]? = some (.cells #[.bool false, .int .u32 id, .bool rtr, .int .i64 dlc, .slice A l.length c] 25 (0,0)))) (fun v5 _ _ => l.length - (intOf v5).toNat)
  case atStart => exact ⟨0,Nat.zero_le _,rfl,by rw [← str_append,List.take_zero];simp [dataL],⟨HBL _⟩,⟨HBX⟩⟩
  case round =>
   obtain ⟨i,hi,rfl,rfl,HB,HBOX⟩:=hrel
   have hc0:=blk_cell HBOX.out 0;have hc1:=blk_cell HBOX.out 1;have hc2:=blk_cell HBOX.out 2;have hc3:=blk_cell HBOX.out 3;have hc4:=blk_cell HBOX.out 4;simp only [box5_0,box5_1,box5_2,box5_3,box5_4] at hc0 hc1 hc2 hc3 hc4
   have hsz : (strOfNums (headL false id rtr ++ (numL dlc.toNat 4 ++ dataL (l.take i)))).size ≤ 103:=by
    have h1:=headL_length false id rtr;have h2:=dataL_length (l.take i);have h3:=HL.out;rw [strOfNums_size];simp [numL_length] at h1 h2 ⊢;omega
   by_cases hlt : i < l.length
   ·obtain ⟨ad,ea,hcell⟩:=Kd.at_int (Kd.C_below HR.out HB.out) (i : Int) (by omega) (by omega)
    subst ea
    have HBY:=Lib.hid (okBytes_at HOB.out i hlt)
    have HX : Hid (rd l (i : Int) = ((rd l (i : Int)).toNat : Int)):=Lib.hid (by have:=HBY.out;omega)
    rw [HX.out,Int.toNat_natCast] at hcell
    generalize hxx : (rd l (i : Int)).toNat = x at hcell
    have HXX : Hid (x = (rd l (i : Int)).toNat ∧ x < 256):=Lib.hid ⟨hxx.symm,by have:=HBY.out;omega⟩
    have hx256 : x < 256:=HXX.out.2
    have hm8:=HM8.out
    clear hxx
    go_wp2_with (fail)
    (refine (spec_l1num.at (x : Int) 8 x 8 _ rfl (by omega) rfl (by omega)).mono ?_;rintro e w3 ⟨rfl,m3,rfl⟩)
    have HS3 : (strOfNums (numL x 8)).size = 8:=by rw [strOfNums_size,numL_length]
    go_wp2_with (fail)
    go_roundw
    case rel => exact ⟨i + 1,hlt,by go_num,by rw [← str_append,take_next l i hlt,dataL_snoc,HXX.out.1];simp only [List.append_assoc],⟨below_drewN HB.out _⟩,⟨HBOX.out⟩⟩
    case measure => simp [intOf];omega
   ·obtain rfl : i = l.length:=by omega
    go_wp2_with (fail)
    go_ret
    exact ⟨by rw [List.take_length];unfold bodyL;rw [List.append_assoc];rfl,HB.out⟩
 ·go_enter Try.func18,Try.ntmps18
  go_wp2_with (fail)
  (refine (spec_ValidFrame.at true id rtr dlc A c l _ (Kd.C_below HR.out ((Below.refl _ _).alloc (Nat.le_refl _) _)) HC.out true HV.out).mono ?_;rintro e w1 ⟨rfl,hb1⟩;have HB1 : Hid (Below w.heap.size w w1):=Lib.hid (Below.trans ((Below.refl _ _).alloc (Nat.le_refl _) _) (hb1.mono (by simp)));have HBOX:=Lib.hid (blk_below (blk_new w _) hb1);clear hb1;have hc0:=blk_cell HBOX.out 0;have hc1:=blk_cell HBOX.out 1;have hc2:=blk_cell HBOX.out 2;have hc3:=blk_cell HBOX.out 3;have hc4:=blk_cell HBOX.out 4;simp only [box5_0,box5_1,box5_2,box5_3,box5_4] at hc0 hc1 hc2 hc3 hc4)
  go_wp2_with (fail)
  have hw : IntKind.i64.wrap id = id:=by rw [IntKind.wrap_i64];omega
  (refine (spec_l1num.at id 29 id.toNat 29 _ HU.out (by omega) rfl (by omega)).mono ?_;rintro e wn ⟨rfl,mn,rfl⟩)
  have hs2 : (strOfNums (flagL rtr)).size = 1:=by rw [strOfNums_size];rfl
  have hs3 : (strOfNums (numL id.toNat 29)).size = 29:=by rw [strOfNums_size,numL_length]
  have hs4 : (strOfNums (numL (id.toNat / 262144) 11)).size = 11:=by rw [strOfNums_size,numL_length]
  have hs5 : (strOfNums (numL id.toNat 18)).size = 18:=by rw [strOfNums_size,numL_length]
  have hx1 : (strOfNums (numL id.toNat 29)).extract 0 11 = strOfNums (numL (id.toNat / 262144) 11):=text_left id.toNat
  have hx2 : (strOfNums (numL id.toNat 29)).extract 11 29 = strOfNums (numL id.toNat 18):=text_right id.toNat
  go_wp2_with (fail)
  obtain ⟨W,hW⟩ : ∃ W,W = w1.drewN mn:=⟨_,rfl⟩
  rw [← hW]
  (have HBX : Hid (W.heap[w.heap.size]? = some (.cells #[.bool true, .int .u32 id, .bool rtr, .int .i64 dlc, .slice A l.length c] 25 (0,0))):=Lib.hid (by rw [hW];exact HBOX.out);have HBW : Hid (Below w.heap.size w W):=Lib.hid (by rw [hW];exact below_drewN HB1.out _);clear hc0 hc1 hc2 hc3 hc4 hW HBOX HB1;have HBOX:=HBX;have HB1:=HBW;clear HBX HBW;have hc0:=blk_cell HBOX.out 0;have hc1:=blk_cell HBOX.out 1;have hc2:=blk_cell HBOX.out 2;have hc3:=blk_cell HBOX.out 3;have hc4:=blk_cell HBOX.out 4;simp only [box5_0,box5_1,box5_2,box5_3,box5_4] at hc0 hc1 hc2 hc3 hc4)
  go_quiet ((first | (go_at_call 80;exact Calls.quiet_of (spec_l1flag.at _ _))))
  go_wp2_with (fail)
  rw [text_ext29]
  (refine (spec_l1num.at dlc 4 dlc.toNat 4 _ HD.out (by omega) rfl (by omega)).mono ?_;rintro e w2 ⟨rfl,m2,rfl⟩)
  have HS1 : (strOfNums (headL true id rtr)).size ≤ 35:=by rw [strOfNums_size];exact headL_length _ _ _
  have HS2 : (strOfNums (numL dlc.toNat 4)).size = 4:=by rw [strOfNums_size,numL_length]
  go_wp2_with (fail)
  have HBL:=below_drewN HB1.out
  have HBX:=HBOX.out
  clear hc0 hc1 hc2 hc3 hc4 HBOX
  go_loopw [5,3] (fun v5 v3 wr => ∃ (i : Nat),i ≤ l.length ∧ v5 = .int .i64 i ∧ v3 = .string (strOfNums (headL true id rtr ++ (numL dlc.toNat 4 ++ dataL (l.take i)))) ∧ Aside0 (Below w.heap.size w wr) ∧ Aside0 (wr.heap[w.heap.size]? = some (.cells #[.bool true, .int .u32 id, .bool rtr, .int .i64 dlc, .slice A l.length c] 25 (0,0)))) (fun v5 _ _ => l.length - (intOf v5).toNat)
  case atStart => exact ⟨0,Nat.zero_le _,rfl,by rw [← str_append,List.take_zero];simp [dataL],⟨HBL _⟩,⟨HBX⟩⟩
  case round =>
   obtain ⟨i,hi,rfl,rfl,HB,HBOX⟩:=hrel
   have hc0:=blk_cell HBOX.out 0;have hc1:=blk_cell HBOX.out 1;have hc2:=blk_cell HBOX.out 2;have hc3:=blk_cell HBOX.out 3;have hc4:=blk_cell HBOX.out 4;simp only [box5_0,box5_1,box5_2,box5_3,box5_4] at hc0 hc1 hc2 hc3 hc4
   have hsz : (strOfNums (headL true id rtr ++ (numL dlc.toNat 4 ++ dataL (l.take i)))).size ≤ 103:=by
    have h1:=headL_length true id rtr;have h2:=dataL_length (l.take i);have h3:=HL.out;rw [strOfNums_size];simp [numL_length] at h1 h2 ⊢;omega
   by_cases hlt : i < l.length
   ·obtain ⟨ad,ea,hcell⟩:=Kd.at_int (Kd.C_below HR.out HB.out) (i : Int) (by omega) (by omega)
    subst ea
    have HBY:=Lib.hid (okBytes_at HOB.out i hlt)
    have HX : Hid (rd l (i : Int) = ((rd l (i : Int)).toNat : Int)):=Lib.hid (by have:=HBY.out;omega)
    rw [HX.out,Int.toNat_natCast] at hcell
    generalize hxx : (rd l (i : Int)).toNat = x at hcell
    have HXX : Hid (x = (rd l (i : Int)).toNat ∧ x < 256):=Lib.hid ⟨hxx.symm,by have:=HBY.out;omega⟩
    have hx256 : x < 256:=HXX.out.2
    have hm8:=HM8.out
    clear hxx
    go_wp2_with (fail)
    (refine (spec_l1num.at (x : Int) 8 x 8 _ rfl (by omega) rfl (by omega)).mono ?_;rintro e w3 ⟨rfl,m3,rfl⟩)
    have HS3 : (strOfNums (numL x 8)).size = 8:=by rw [strOfNums_size,numL_length]
    go_wp2_with (fail)
    go_roundw
    case rel => exact ⟨i + 1,hlt,by go_num,by rw [← str_append,take_next l i hlt,dataL_snoc,HXX.out.1];simp only [List.append_assoc],⟨below_drewN HB.out _⟩,⟨HBOX.out⟩⟩
    case measure => simp [intOf];omega
   ·obtain rfl : i = l.length:=by omega
    go_wp2_with (fail)
    go_ret
    exact ⟨by rw [List.take_length];unfold bodyL;rw [List.append_assoc];rfl,HB.out⟩
theorem spec_Body.calls (a0_0 : Bool) (a0_1 : Int) (a0_2 : Bool) (a0_3 : Int) (A0_4 : Option Addr) (c0_4 : Nat) (l0_4 : List Int) (r : ByteArray) (w : World) (hr0_4 : Kd.C (Kd.int .u8) w A0_4 l0_4.length l0_4) (hc0_4 : l0_4.length ≤ c0_4) (h : spec_Body.f a0_0 a0_1 a0_2 a0_3 l0_4 = some r) :
  Calls Try.prog 18 #[.agg #[.bool a0_0, .int .u32 a0_1, .bool a0_2, .int .i64 a0_3, .slice A0_4 l0_4.length c0_4]] w fun e w' => e = .returned (.string r) ∧ Below w.heap.size w w':=by
 unfold spec_Body.f at h
 by_cases c : 0 ≤ a0_1 ∧ okBytes l0_4 = true
 ·rw [if_pos c] at h
  have hr:=(Option.some.inj h).symm
  unfold bodyV at hr
  cases hv : validF a0_0 a0_1 a0_2 a0_3 l0_4.length with
  | true =>
   rw [hv,if_pos rfl] at hr
   subst hr
   exact spec_Body.yes a0_0 a0_1 a0_2 a0_3 A0_4 c0_4 l0_4 w hr0_4 hc0_4 c.1 c.2 hv
  | false =>
   rw [hv] at hr
   subst hr
   have HV:=Lib.hid hv
   have HR:=Lib.hid hr0_4
   have HC:=Lib.hid hc0_4
   have HM8 : Hid (l0_4.length ≤ 9223372036854775807):=Lib.hid hr0_4.2.1
   clear hr0_4 hc0_4 hv c h
   go_enter Try.func18,Try.ntmps18
   go_wp2_with (fail)
   (refine (spec_ValidFrame.at a0_0 a0_1 a0_2 a0_3 A0_4 c0_4 l0_4 _ (Kd.C_below HR.out ((Below.refl _ _).alloc (Nat.le_refl _) _)) HC.out false HV.out).mono ?_;rintro e w1 ⟨rfl,hb1⟩;have HB1 : Hid (Below w.heap.size w w1):=Lib.hid (Below.trans ((Below.refl _ _).alloc (Nat.le_refl _) _) (hb1.mono (by simp)));clear hb1)
   go_wp2_with (fail)
   go_ret
   exact ⟨rfl,HB1.out⟩
 ·rw [if_neg c] at h
  cases h
end Go.Proofs.Ytdoclpgciadjaaa.P

namespace Go.Proofs.Ytdoclpgciadjaaa.P
open Go.RowKit Go.Proofs.YtdoclpgciadjaaaW.PrintWords Go.Proofs.YtdoclpgciadjaaaW.PrintLast Go.Proofs.YtdoclpgciadjaaaW.PrintMore
set_option linter.unusedVariables false
set_option linter.unusedSimpArgs false
def spec_l1other.f (a0 : Int) : Option (Int):=if a0 = 48 then (some 49) else (some 48)
set_option maxHeartbeats 8000000 in
set_option maxRecDepth 100000 in
theorem spec_l1other.calls (a0 : Int) (r : Int) (w : World) (h : spec_l1other.f a0 = some r) :
  Calls Try.prog 148 #[.int .u8 a0] w fun e w' => e = .returned (.int .u8 r) ∧ Drawn0 w w':=by
 have H : (if a0 = 48 then (some 49) else (some 48)) = some r:=h
 clear h
 by_cases c2 : a0 = 48
 ·rw [if_pos c2] at H
  have c2b0 : (a0 == 48) = true:=beq_iff_eq.mpr c2
  have c2b1 : (a0 != 48) = false:=bne_eq_false_iff_eq.mpr c2
  clear c2
  obtain rfl:=Option.some.inj H
  go_enter Try.func148,Try.ntmps148
  go_wp2
  go_ret
  exact ⟨by first | rfl | (simp;done) | (simp [*];done),by repeat (first | exact Drawn0.refl _ | apply Drawn0.step)⟩
 ·rw [if_neg c2] at H
  have c2b0 : (a0 == 48) = false:=beq_eq_false_iff_ne.mpr c2
  have c2b1 : (a0 != 48) = true:=bne_iff_ne.mpr c2
  obtain rfl:=Option.some.inj H
  go_enter Try.func148,Try.ntmps148
  go_wp2
  go_ret
  exact ⟨by first | rfl | (simp;done) | (simp [*];done),by repeat (first | exact Drawn0.refl _ | apply Drawn0.step)⟩
end Go.Proofs.Ytdoclpgciadjaaa.P

namespace Go.Proofs.Ytdoclpgciadjaaa.P
open Go.RowKit Go.Proofs.YtdoclpgciadjaaaW.PrintWords Go.Proofs.YtdoclpgciadjaaaW.PrintLast Go.Proofs.YtdoclpgciadjaaaW.PrintMore
set_option linter.unusedVariables false
set_option linter.unusedSimpArgs false
def spec_Stuff.l0 : Nat → ByteArray → List Int → Int → Option (ByteArray)
 | 0,_,_,_ => none
 | k + 1,x0,x3,x4 => if x4 < (x0.size : Int) then (if 0 ≤ x4 then (if x3.length < 140737488355328 then ((some (x3 ++ [bt x0 x4] : List Int)).bind fun y179 => ((spec_l1due.f y179 (y179.length : Int)).bind fun t182 => (if t182 = true then ((spec_l1other.f (bt x0 x4)).bind fun t183 => (if y179.length < 140737488355328 then (spec_Stuff.l0 k x0 (y179 ++ [t183]) (wrap64 (x4 + 1))) else (none))) else (spec_Stuff.l0 k x0 y179 (wrap64 (x4 + 1)))))) else (none)) else (none)) else (some (strOfNums x3))
def spec_Stuff.f (k : Nat) (a0 : ByteArray) : Option (ByteArray):=(spec_l1okBits.f k a0 2000).bind fun t175 => (if t175 = true then (spec_Stuff.l0 k a0 (([] : List Int)) 0) else (some (⟨#[]⟩ : ByteArray)))
set_option maxHeartbeats 8000000 in
set_option maxRecDepth 100000 in
theorem spec_Stuff.calls (k : Nat) (a0 : ByteArray) (r : ByteArray) (w : World) (h : spec_Stuff.f k a0 = some r) :
  Calls Try.prog 106 #[.string a0] w fun e w' => e = .returned (.string r) ∧ Below w.heap.size w w':=by
 have HB:=Aside0.mk (Below.refl w.heap.size w)
 have H : ((spec_l1okBits.f k a0 2000).bind fun t175 => (if t175 = true then (spec_Stuff.l0 k a0 (([] : List Int)) 0) else (some (⟨#[]⟩ : ByteArray)))) = some r:=h
 clear h
 replace H:=Option.bind_eq_some_iff.mp H
 obtain ⟨t175,A20,H⟩:=H
 replace H : (if t175 = true then (spec_Stuff.l0 k a0 (([] : List Int)) 0) else (some (⟨#[]⟩ : ByteArray))) = some r:=H
 have A2:=Aside0.mk A20
 clear A20
 by_cases c3 : t175 = true
 ·subst c3
  have H1 : (spec_Stuff.l0 k a0 (([] : List Int)) 0) = some r:=by rw [if_pos rfl] at H;exact H
  clear H
  have H:=H1
  clear H1
  obtain ⟨y176,hy176⟩ : ∃ y_ : List Int,y_ = (([] : List Int)):=⟨_,rfl⟩
  replace H : (spec_Stuff.l0 k a0 y176 0) = some r:=by first | (rw [hy176];with_reducible exact H) | (have H2_:=(Option.bind_some _ _).symm.trans H;rw [hy176];with_reducible exact H2_) | (have H2_:=(Option.bind_some _ _).symm.trans H;with_reducible exact H2_) | with_reducible exact H | (rw [hy176];exact H) | exact H
  have Ny176:=Aside0.mk hy176
  clear hy176
  have H':=Aside0.mk H
  clear H
  go_enter Try.func106,Try.ntmps106
  go_wp2_with (first | ((with_reducible refine gate_callee (f:=128) rfl ?_);refine goesL_ (some 6) rfl rfl Try.func128 (by kernel_rfl) rfl #[.string a0, .int .i64 2000] rfl (by (try simp only [List.map_toArray,List.map_cons,List.map_nil]);first | done | rfl | (simp only [List.length_drop,List.length_take];rfl)) ?_;(with_reducible refine (spec_l1okBits.calls k a0 2000 true _ A2.out).mono ?_);rintro e w' ⟨rfl,⟨nd,rfl⟩⟩;refine ⟨_,rfl, ?_⟩) | ((with_reducible refine gate_dst (N:=8) rfl ?_);refine Kd.R_lit (Kd.int .u8) _ 5 ?hg (N:=8) ?hd (xs:=([] : List Int)) (inner := []) (ok:=fun _ => True) (okp:=fun _ => True) ?hr ?hp (fun _ hk => hk) trivial (Below.refl _ _) (Nat.le_refl _) (by simp) ?_;(case hd => rfl);(case hg => rfl);(case hr => first | (go_simp;done) | (go_simp;rfl));(case hp => exact (Reps.none _ _));intro v177 w4 ho5 hb hg_ hnew_;clear hg_ hnew_;(first | rw [← Ny176.out] at ho5 | (simp only [Int.reduceToNat] at ho5;rw [← Ny176.out] at ho5));have n0_:=Aside0.mk (Kd.R_lower ho5 (below_size (by repeat (first | (with_reducible first | exact HB.out | apply below_alloc | apply pw_below_drewN | apply below_drew1) | exact HB.out))));have n1_:=Aside0.mk (below_step (by repeat (first | (with_reducible first | exact HB.out | apply below_alloc | apply pw_below_drewN | apply below_drew1) | exact HB.out)) hb);clear HB;have HO178:=n0_;have HB:=n1_;clear n0_ n1_;clear hb ho5))
  go_loopg [3,4] k (fun kq v3 v4 w' => ∃ (x3_1 : List Int) (x4_1 : Int),v4 = .int .i64 x4_1 ∧ Aside0 (spec_Stuff.l0 kq a0 x3_1 x4_1 = some r) ∧ Aside0 (kq ≤ k) ∧ Aside0 (Kd.R (Kd.int .u8) 5 w' w.heap.size (fun _ => True) v3 x3_1) ∧ Aside0 (Below w.heap.size w w'))
  case atStart => exact ⟨(y176),(0),(by first | rfl | (simp;done) | (simp [*];done)),H',⟨Nat.le_refl _⟩,⟨by (with_reducible repeat (first | apply Kd.R_alloc | apply Kd.R_drewN | apply Kd.R_drew));exact HO178.out⟩,⟨by repeat (first | (with_reducible first | exact HB.out | apply below_alloc | apply pw_below_drewN | apply below_drew1) | exact HB.out)⟩⟩
  case round =>
   clear H'
   try clear c1
   try clear p2
   try clear c3
   obtain ⟨x3_1,x4_1,rfl,HA,HK1,HO_3,HB⟩:=hrel
   cases gk with
   | zero => exact absurd HA.out (by simp [spec_Stuff.l0])
   | succ k1 =>
    have H:=HA.out
    clear HA
    simp only [spec_Stuff.l0] at H
    by_cases c6 : x4_1 < (a0.size : Int)
    ·rw [if_pos c6] at H
     have c6b0 : decide (x4_1 < (a0.size : Int)) = true:=decide_eq_true c6
     clear c6
     by_cases c7 : 0 ≤ x4_1
     ·rw [if_pos c7] at H
      have c7b0 : decide (0 ≤ x4_1) = true:=decide_eq_true c7
      clear c7
      by_cases c9 : x3_1.length < 140737488355328
      ·rw [if_pos c9] at H
       have LMc9:=Aside0.mk c9
       clear c9
       obtain ⟨y179,hy179⟩ : ∃ y_ : List Int,y_ = (x3_1 ++ [bt a0 x4_1]):=⟨_,rfl⟩
       replace H : ((spec_l1due.f y179 (y179.length : Int)).bind fun t182 => (if t182 = true then ((spec_l1other.f (bt a0 x4_1)).bind fun t183 => (if y179.length < 140737488355328 then (spec_Stuff.l0 k1 a0 (y179 ++ [t183]) (wrap64 (x4_1 + 1))) else (none))) else (spec_Stuff.l0 k1 a0 y179 (wrap64 (x4_1 + 1))))) = some r:=by first | (rw [hy179];with_reducible exact H) | (have H2_:=(Option.bind_some _ _).symm.trans H;rw [hy179];with_reducible exact H2_) | (have H2_:=(Option.bind_some _ _).symm.trans H;with_reducible exact H2_) | with_reducible exact H | (rw [hy179];exact H) | exact H
       have Ny179:=Aside0.mk hy179
       clear hy179
       replace H:=Option.bind_eq_some_iff.mp H
       obtain ⟨t182,A100,H⟩:=H
       replace H : (if t182 = true then ((spec_l1other.f (bt a0 x4_1)).bind fun t183 => (if y179.length < 140737488355328 then (spec_Stuff.l0 k1 a0 (y179 ++ [t183]) (wrap64 (x4_1 + 1))) else (none))) else (spec_Stuff.l0 k1 a0 y179 (wrap64 (x4_1 + 1)))) = some r:=H
       have A10:=Aside0.mk A100
       clear A100
       by_cases c11 : t182 = true
       ·subst c11
        have H1 : ((spec_l1other.f (bt a0 x4_1)).bind fun t183 => (if y179.length < 140737488355328 then (spec_Stuff.l0 k1 a0 (y179 ++ [t183]) (wrap64 (x4_1 + 1))) else (none))) = some r:=by rw [if_pos rfl] at H;exact H
        clear H
        have H:=H1
        clear H1
        replace H:=Option.bind_eq_some_iff.mp H
        obtain ⟨t183,A130,H⟩:=H
        replace H : (if y179.length < 140737488355328 then (spec_Stuff.l0 k1 a0 (y179 ++ [t183]) (wrap64 (x4_1 + 1))) else (none)) = some r:=H
        have A13:=Aside0.mk A130
        clear A130
        by_cases c14 : y179.length < 140737488355328
        ·rw [if_pos c14] at H
         have LMc14:=Aside0.mk c14
         clear c14
         obtain ⟨y184,hy184⟩ : ∃ y_ : List Int,y_ = (y179 ++ [t183]):=⟨_,rfl⟩
         replace H : (spec_Stuff.l0 k1 a0 y184 (wrap64 (x4_1 + 1))) = some r:=by first | (rw [hy184];with_reducible exact H) | (have H2_:=(Option.bind_some _ _).symm.trans H;rw [hy184];with_reducible exact H2_) | (have H2_:=(Option.bind_some _ _).symm.trans H;with_reducible exact H2_) | with_reducible exact H | (rw [hy184];exact H) | exact H
         have Ny184:=Aside0.mk hy184
         clear hy184
         have H':=Aside0.mk H
         clear H
         have p8 : 0 ≤ (x4_1 : Int):=of_decide_eq_true (by first | (with_reducible assumption) | assumption)
         have q8 : x4_1 < (a0.size : Int):=of_decide_eq_true (by first | (with_reducible assumption) | assumption)
         have hx8:=bt_at a0 x4_1
         replace p8:=eq_true p8
         replace q8:=eq_true q8
         go_wp2_with (first | ((with_reducible refine gate_builtin (b := .append) (xs := #[.tmp 15, .tmp 19]) rfl ?_);at_builtin;refine Kd.R_append (Kd.int .u8) (w0:=w) w.heap.size rfl (.tmp 15) (.tmp 19) 22 5 (.int .u8 0) 1 rfl Try.underlying22 info5 rfl (by decide) (by omega) u3 x3_1 (bt a0 x4_1) [.int .u8 (bt a0 x4_1)] (fun _ => True) (fun _ => False) rfl rfl ?aP (fun _ hk => hk.elim) ?aF ?aO ?aB ?aS ?aL ?_;(case aP => exact rfl);(case aB => exact (by repeat (first | (with_reducible first | exact HB.out | apply below_alloc | apply pw_below_drewN | apply below_drew1) | exact HB.out)));(case aF => exact (fun _ _ => trivial));(case aO => exact (by (with_reducible repeat (first | apply Kd.R_alloc | apply Kd.R_drewN | apply Kd.R_drew));exact HO_3.out));(case aS => exact (below_size (by repeat (first | (with_reducible first | exact HB.out | apply below_alloc | apply pw_below_drewN | apply below_drew1) | exact HB.out))));(case aL => have:=LMc9.out;omega);intro v180 w15 ho hb hg hat;rw [← Ny179.out] at ho;have n0_:=Aside0.mk (hb);have n1_:=Aside0.mk (ho);clear HB;clear HO_3;have HB:=n0_;have HO181:=n1_;clear n0_ n1_;clear ho hb hg hat;obtain ⟨Ao16,co16,eo16⟩:=Kd.R_slice HO181.out;subst eo16) | ((with_reducible refine gate_callee (f:=139) rfl ?_);refine goesL_ (some 24) rfl rfl Try.func139 (by kernel_rfl) rfl #[.slice Ao16 y179.length co16, .int .i64 (y179.length : Int)] rfl (by (try simp only [List.map_toArray,List.map_cons,List.map_nil]);first | done | rfl | (simp only [List.length_drop,List.length_take];rfl)) ?_;(with_reducible refine (spec_l1due.calls _ _ y179 (y179.length : Int) true _ ?side1 ?side2 A10.out).mono ?_);(case side1 => repeat (first | exact (Kd.R_reads' HO181.out).2.2 | (with_reducible refine Kd.C_alloc ?_ _) | (with_reducible refine Kd.C_drewN ?_ _) | (with_reducible refine Kd.C_drew ?_)));(case side2 => exact (Kd.R_reads' HO181.out).2.1);rintro e w' ⟨rfl,⟨nd,rfl⟩⟩;refine ⟨_,rfl, ?_⟩;have p12 : 0 ≤ (x4_1 : Int):=of_decide_eq_true (by first | (with_reducible assumption) | assumption);have q12 : x4_1 < (a0.size : Int):=of_decide_eq_true (by first | (with_reducible assumption) | assumption);have hx12:=bt_at a0 x4_1;replace p12:=eq_true p12;replace q12:=eq_true q12) | ((with_reducible refine gate_callee (f:=148) rfl ?_);refine goesL_ (some 29) rfl rfl Try.func148 (by kernel_rfl) rfl #[.int .u8 (bt a0 x4_1)] rfl (by (try simp only [List.map_toArray,List.map_cons,List.map_nil]);first | done | rfl | (simp only [List.length_drop,List.length_take];rfl)) ?_;(with_reducible refine (spec_l1other.calls (bt a0 x4_1) t183 _ A13.out).mono ?_);rintro e w' ⟨rfl,⟨nd,rfl⟩⟩;refine ⟨_,rfl, ?_⟩) | ((with_reducible refine gate_builtin (b := .append) (xs := #[.tmp 25, .tmp 30]) rfl ?_);at_builtin;refine Kd.R_append (Kd.int .u8) (w0:=w) w.heap.size rfl (.tmp 25) (.tmp 30) 22 5 (.int .u8 0) 1 rfl Try.underlying22 info5 rfl (by decide) (by omega) (.slice Ao16 y179.length co16) y179 t183 [.int .u8 t183] (fun _ => True) (fun _ => False) rfl rfl ?aP (fun _ hk => hk.elim) ?aF ?aO ?aB ?aS ?aL ?_;(case aP => exact rfl);(case aB => exact (by repeat (first | (with_reducible first | exact HB.out | apply below_alloc | apply pw_below_drewN | apply below_drew1) | exact HB.out)));(case aF => exact (fun _ _ => trivial));(case aO => exact (by (with_reducible repeat (first | apply Kd.R_alloc | apply Kd.R_drewN | apply Kd.R_drew));exact HO181.out));(case aS => exact (below_size (by repeat (first | (with_reducible first | exact HB.out | apply below_alloc | apply pw_below_drewN | apply below_drew1) | exact HB.out))));(case aL => have:=LMc14.out;omega);intro v185 w17 ho hb hg hat;rw [← Ny184.out] at ho;have n0_:=Aside0.mk (hb);have n1_:=Aside0.mk (ho);clear HB;clear HO181;have HB:=n0_;have HO186:=n1_;clear n0_ n1_;clear ho hb hg hat))
         go_roundg k1
         case measure => have:=HK1.out;omega
         case rel => exact ⟨(y184),(wrap64 (x4_1 + 1)),(by first | rfl | (simp;done) | (simp [*];done)),H',⟨by have:=HK1.out;omega⟩,⟨by (with_reducible repeat (first | apply Kd.R_alloc | apply Kd.R_drewN | apply Kd.R_drew));exact HO186.out⟩,⟨by repeat (first | (with_reducible first | exact HB.out | apply below_alloc | apply pw_below_drewN | apply below_drew1) | exact HB.out)⟩⟩
        ·rw [if_neg c14] at H
         exact absurd H (by simp)
       ·replace c11:=Bool.eq_false_iff.mpr c11
        subst c11
        have H1 : (spec_Stuff.l0 k1 a0 y179 (wrap64 (x4_1 + 1))) = some r:=by rw [if_neg (show ¬ (false = true) by decide)] at H;exact H
        clear H
        have H:=H1
        clear H1
        have H':=Aside0.mk H
        clear H
        have p8 : 0 ≤ (x4_1 : Int):=of_decide_eq_true (by first | (with_reducible assumption) | assumption)
        have q8 : x4_1 < (a0.size : Int):=of_decide_eq_true (by first | (with_reducible assumption) | assumption)
        have hx8:=bt_at a0 x4_1
        replace p8:=eq_true p8
        replace q8:=eq_true q8
        go_wp2_with (first | ((with_reducible refine gate_builtin (b := .append) (xs := #[.tmp 15, .tmp 19]) rfl ?_);at_builtin;refine Kd.R_append (Kd.int .u8) (w0:=w) w.heap.size rfl (.tmp 15) (.tmp 19) 22 5 (.int .u8 0) 1 rfl Try.underlying22 info5 rfl (by decide) (by omega) u3 x3_1 (bt a0 x4_1) [.int .u8 (bt a0 x4_1)] (fun _ => True) (fun _ => False) rfl rfl ?aP (fun _ hk => hk.elim) ?aF ?aO ?aB ?aS ?aL ?_;(case aP => exact rfl);(case aB => exact (by repeat (first | (with_reducible first | exact HB.out | apply below_alloc | apply pw_below_drewN | apply below_drew1) | exact HB.out)));(case aF => exact (fun _ _ => trivial));(case aO => exact (by (with_reducible repeat (first | apply Kd.R_alloc | apply Kd.R_drewN | apply Kd.R_drew));exact HO_3.out));(case aS => exact (below_size (by repeat (first | (with_reducible first | exact HB.out | apply below_alloc | apply pw_below_drewN | apply below_drew1) | exact HB.out))));(case aL => have:=LMc9.out;omega);intro v180 w18 ho hb hg hat;rw [← Ny179.out] at ho;have n0_:=Aside0.mk (hb);have n1_:=Aside0.mk (ho);clear HB;clear HO_3;have HB:=n0_;have HO181:=n1_;clear n0_ n1_;clear ho hb hg hat;obtain ⟨Ao19,co19,eo19⟩:=Kd.R_slice HO181.out;subst eo19) | ((with_reducible refine gate_callee (f:=139) rfl ?_);refine goesL_ (some 24) rfl rfl Try.func139 (by kernel_rfl) rfl #[.slice Ao19 y179.length co19, .int .i64 (y179.length : Int)] rfl (by (try simp only [List.map_toArray,List.map_cons,List.map_nil]);first | done | rfl | (simp only [List.length_drop,List.length_take];rfl)) ?_;(with_reducible refine (spec_l1due.calls _ _ y179 (y179.length : Int) false _ ?side1 ?side2 A10.out).mono ?_);(case side1 => repeat (first | exact (Kd.R_reads' HO181.out).2.2 | (with_reducible refine Kd.C_alloc ?_ _) | (with_reducible refine Kd.C_drewN ?_ _) | (with_reducible refine Kd.C_drew ?_)));(case side2 => exact (Kd.R_reads' HO181.out).2.1);rintro e w' ⟨rfl,⟨nd,rfl⟩⟩;refine ⟨_,rfl, ?_⟩))
        go_roundg k1
        case measure => have:=HK1.out;omega
        case rel => exact ⟨(y179),(wrap64 (x4_1 + 1)),(by first | rfl | (simp;done) | (simp [*];done)),H',⟨by have:=HK1.out;omega⟩,⟨by (with_reducible repeat (first | apply Kd.R_alloc | apply Kd.R_drewN | apply Kd.R_drew));exact HO181.out⟩,⟨by repeat (first | (with_reducible first | exact HB.out | apply below_alloc | apply pw_below_drewN | apply below_drew1) | exact HB.out)⟩⟩
      ·rw [if_neg c9] at H
       exact absurd H (by simp)
     ·rw [if_neg c7] at H
      exact absurd H (by simp)
    ·rw [if_neg c6] at H
     have c6b0 : decide (x4_1 < (a0.size : Int)) = false:=decide_eq_false c6
     clear c6
     obtain rfl:=Option.some.inj H
     have hcv20:=own_string (P:=Try.prog) Try.underlying22 Try.underlying5 Try.underlying9 (Kd.own_of_R HO_3.out)
     go_wp2
     go_ret
     exact ⟨by first | rfl | (simp [errW_none,errW_some] <;> rfl) | (simp [*,errW_none,errW_some] <;> rfl),by repeat (first | (with_reducible first | exact HB.out | apply below_alloc | apply pw_below_drewN | apply below_drew1) | exact HB.out)⟩
 ·replace c3:=Bool.eq_false_iff.mpr c3
  subst c3
  have H1 : (some (⟨#[]⟩ : ByteArray)) = some r:=by rw [if_neg (show ¬ (false = true) by decide)] at H;exact H
  clear H
  have H:=H1
  clear H1
  obtain rfl:=Option.some.inj H
  go_enter Try.func106,Try.ntmps106
  go_wp2_with (first | ((with_reducible refine gate_callee (f:=128) rfl ?_);refine goesL_ (some 6) rfl rfl Try.func128 (by kernel_rfl) rfl #[.string a0, .int .i64 2000] rfl (by (try simp only [List.map_toArray,List.map_cons,List.map_nil]);first | done | rfl | (simp only [List.length_drop,List.length_take];rfl)) ?_;(with_reducible refine (spec_l1okBits.calls k a0 2000 false _ A2.out).mono ?_);rintro e w' ⟨rfl,⟨nd,rfl⟩⟩;refine ⟨_,rfl, ?_⟩))
  go_ret
  exact ⟨by first | rfl | (simp [errW_none,errW_some] <;> rfl) | (simp [*,errW_none,errW_some] <;> rfl),by repeat (first | (with_reducible first | exact HB.out | apply below_alloc | apply pw_below_drewN | apply below_drew1) | exact HB.out)⟩
end Go.Proofs.Ytdoclpgciadjaaa.P
