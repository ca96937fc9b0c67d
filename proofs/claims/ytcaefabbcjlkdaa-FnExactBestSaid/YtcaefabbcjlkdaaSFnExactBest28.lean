/- Texts of the proof of FnExactBest, joined. -/
import Derived.Test.YtcaefabbcjlkdaaSFnExactBest22
import Derived.Test.YtcaefabbcjlkdaaSFnExactBest27
import Derived.Test.YtcaefabbcjlkdaaSFnExactBest1
import Derived.Test.YtcaefabbcjlkdaaSFnExactBest26
import Derived.Deep.Slices
import Derived.Deep.Fields
import Derived.ChangeSame
import Derived.WideShapes
import Derived.Deep.QuietTactic
import Derived.BigQuiet
import Derived.ChangeKeysEq
namespace Go.Proofs.Ytcaefabbcjlkdaa.P
open Go.RowKit Go.Proofs.YtcaefabbcjlkdaaW.PrintWords Go.Proofs.YtcaefabbcjlkdaaW.PrintLast Go.Proofs.YtcaefabbcjlkdaaW.PrintMore
set_option linter.unusedVariables false
set_option linter.unusedSimpArgs false
mutual
def spec_ValidFrame.j0 : Nat → Bool → Bool → Int → Bool → Int → List Int → Option (Bool)
 | 0,_,_,_,_,_,_ => none
 | k + 1,x9,x208000,x208001,x208002,x208003,x208004 => if x9 = true then (some false) else (if x208000 = true then (spec_ValidFrame.j1 k false x208000 x208001 x208002 x208003 x208004) else (spec_ValidFrame.j1 k (decide (x208001 ≥ 2048)) x208000 x208001 x208002 x208003 x208004))
def spec_ValidFrame.j1 : Nat → Bool → Bool → Int → Bool → Int → List Int → Option (Bool)
 | 0,_,_,_,_,_,_ => none
 | k + 1,x17,x208000,x208001,x208002,x208003,x208004 => if x17 = true then (some false) else (if x208003 < 0 then (some false) else (if x208003 > 15 then (some false) else ((spec_l1dataLen.f x208000 x208001 x208002 x208003 x208004).bind fun t208 => (some ((x208004.length : Int) == t208)))))
end
def spec_ValidFrame.f (k : Nat) (a0_0 : Bool) (a0_1 : Int) (a0_2 : Bool) (a0_3 : Int) (l0_4 : List Int) : Option (Bool):=if a0_0 = true then (spec_ValidFrame.j0 k (decide (a0_1 ≥ 536870912)) a0_0 a0_1 a0_2 a0_3 l0_4) else (spec_ValidFrame.j0 k false a0_0 a0_1 a0_2 a0_3 l0_4)
set_option maxHeartbeats 8000000 in
set_option maxRecDepth 100000 in
theorem spec_ValidFrame.calls (k : Nat) (a0_0 : Bool) (a0_1 : Int) (a0_2 : Bool) (a0_3 : Int) (A0_4 : Option Addr) (c0_4 : Nat) (l0_4 : List Int) (r : Bool) (w : World) (hr0_4 : Kd.C (Kd.int .u8) w A0_4 l0_4.length l0_4) (hc0_4 : l0_4.length ≤ c0_4) (h : spec_ValidFrame.f k a0_0 a0_1 a0_2 a0_3 l0_4 = some r) :
  Calls Try.prog 75 #[.agg #[.bool a0_0, .int .u32 a0_1, .bool a0_2, .int .i64 a0_3, .slice A0_4 l0_4.length c0_4]] w fun e w' => e = .returned (.bool r) ∧ Below w.heap.size w w':=by
 have hu45:=Try.underlying45
 have HR0_4:=Aside0.mk hr0_4
 have HC0_4:=Aside0.mk hc0_4
 clear hr0_4 hc0_4
 have HB:=Aside0.mk (Below.refl w.heap.size w)
 have H : (if a0_0 = true then (spec_ValidFrame.j0 k (decide (a0_1 ≥ 536870912)) a0_0 a0_1 a0_2 a0_3 l0_4) else (spec_ValidFrame.j0 k false a0_0 a0_1 a0_2 a0_3 l0_4)) = some r:=h
 clear h
 have HC2:=Aside0.mk H
 clear H
 go_enter Try.func75,Try.ntmps75
 go_upto_region 1 with (first | ((with_reducible refine gate_dst (N:=1) rfl ?_);refine box_event ?hg (N:=1) ?hd (cs := #[.bool a0_0, .int .u32 a0_1, .bool a0_2, .int .i64 a0_3, .slice A0_4 l0_4.length c0_4]) (t:=45) ?hr ?_;(case hd => rfl);(case hg => rfl);(case hr => first | (go_simp;done) | (go_simp;rfl));intro gb207 hg w3 hbox hb;have n0_:=Aside0.mk (below_step (by repeat (first | (with_reducible first | exact HB.out | apply below_alloc | apply pw_below_drewN | apply below_drew1) | exact HB.out)) hb);have n1_:=Aside0.mk (hbox);have n2_:=Aside0.mk ((by rw [hg];exact (below_size (by repeat (first | (with_reducible first | exact HB.out | apply below_alloc | apply pw_below_drewN | apply below_drew1) | exact HB.out))) : w.heap.size ≤ gb207));have n3_:=Aside0.mk ((by rw [hg];exact (below_size (by repeat (first | (with_reducible first | exact HB.out | apply below_alloc | apply pw_below_drewN | apply below_drew1) | exact HB.out))) : w.heap.size ≤ gb207));clear HB;have HB:=n0_;have BK207:=n1_;have GW207:=n2_;have GE207:=n3_;clear n0_ n1_ n2_ n3_;clear hb hbox hg))
 (try simp only [Act.put,List.setIfInBounds_toArray,List.set_cons_zero,List.set_cons_succ])
 go_cut [9] (fun v9 wc => ∃ (kq : Nat) (x9_1 : Bool),v9 = .bool x9_1 ∧ Aside0 (spec_ValidFrame.j0 kq x9_1 a0_0 a0_1 a0_2 a0_3 l0_4 = some r) ∧ Aside0 (kq ≤ k) ∧ Aside0 (wc.heap[gb207]? = some (.cells #[.bool a0_0, .int .u32 a0_1, .bool a0_2, .int .i64 a0_3,(.slice A0_4 l0_4.length c0_4)] 45 (0,0))) ∧ Aside0 (Below w.heap.size w wc))
 case first =>
  have H:=HC2.out
  clear HC2
  by_cases c4 : a0_0 = true
  ·subst c4
   have H1 : (spec_ValidFrame.j0 k (decide (a0_1 ≥ 536870912)) true a0_1 a0_2 a0_3 l0_4) = some r:=by rw [if_pos rfl] at H;exact H
   clear H
   have H:=H1
   clear H1
   have H':=Aside0.mk H
   clear H
   obtain ⟨hcz5_0,hcz5_1,hcz5_2,hcz5_3,hcz5_4⟩:=bc5 BK207.out
   obtain ⟨hfz5_0,hfz5_1,hfz5_2,hfz5_3,hfz5_4⟩:=bf5 BK207.out
   go_wp2
   go_meet
   case rel => exact ⟨_,(decide (a0_1 ≥ 536870912)),(by first | rfl | (simp;done) | (simp [*];done)),H',⟨by first | omega | exact Nat.le_refl _⟩,⟨by (with_reducible repeat (first | refine blk_drewN ?_ _ | refine blk_drew ?_ | refine blk_alloc ?_ _));exact BK207.out⟩,⟨by repeat (first | (with_reducible first | exact HB.out | apply below_alloc | apply pw_below_drewN | apply below_drew1 | refine below_set ?_ GE207.out) | exact HB.out)⟩⟩
  ·replace c4:=Bool.eq_false_iff.mpr c4
   subst c4
   have H1 : (spec_ValidFrame.j0 k false false a0_1 a0_2 a0_3 l0_4) = some r:=by rw [if_neg (show ¬ (false = true) by decide)] at H;exact H
   clear H
   have H:=H1
   clear H1
   have H':=Aside0.mk H
   clear H
   obtain ⟨hcz6_0,hcz6_1,hcz6_2,hcz6_3,hcz6_4⟩:=bc5 BK207.out
   obtain ⟨hfz6_0,hfz6_1,hfz6_2,hfz6_3,hfz6_4⟩:=bf5 BK207.out
   go_wp2
   go_meet
   case rel => exact ⟨_,(false),(by first | rfl | (simp;done) | (simp [*];done)),H',⟨by first | omega | exact Nat.le_refl _⟩,⟨by (with_reducible repeat (first | refine blk_drewN ?_ _ | refine blk_drew ?_ | refine blk_alloc ?_ _));exact BK207.out⟩,⟨by repeat (first | (with_reducible first | exact HB.out | apply below_alloc | apply pw_below_drewN | apply below_drew1 | refine below_set ?_ GE207.out) | exact HB.out)⟩⟩
 case rest =>
  clear HC2
  try clear p2
  try clear c4
  try clear hcz5_0
  try clear hcz5_1
  try clear hcz5_2
  try clear hcz5_3
  try clear hcz5_4
  try clear hcz6_0
  try clear hcz6_1
  try clear hcz6_2
  try clear hcz6_3
  try clear hcz6_4
  try clear hfz5_0
  try clear hfz5_1
  try clear hfz5_2
  try clear hfz5_3
  try clear hfz5_4
  try clear hfz6_0
  try clear hfz6_1
  try clear hfz6_2
  try clear hfz6_3
  try clear hfz6_4
  obtain ⟨kq,x9_1,rfl,HA,HJ1,BK207,HB⟩:=hcut
  cases kq with
  | zero => exact absurd HA.out (by simp [spec_ValidFrame.j0])
  | succ kj1 =>
   have H:=HA.out
   clear HA
   simp only [spec_ValidFrame.j0] at H
   by_cases c7 : x9_1 = true
   ·subst c7
    have H1 : (some false) = some r:=by rw [if_pos rfl] at H;exact H
    clear H
    have H:=H1
    clear H1
    obtain rfl:=Option.some.inj H
    go_wp2
    go_ret
    exact ⟨by first | rfl | (simp [errW_none,errW_some] <;> rfl) | (simp [*,errW_none,errW_some] <;> rfl),by repeat (first | (with_reducible first | exact HB.out | apply below_alloc | apply pw_below_drewN | apply below_drew1 | refine below_set ?_ GE207.out) | exact HB.out)⟩
   ·replace c7:=Bool.eq_false_iff.mpr c7
    subst c7
    have H1 : (if a0_0 = true then (spec_ValidFrame.j1 kj1 false a0_0 a0_1 a0_2 a0_3 l0_4) else (spec_ValidFrame.j1 kj1 (decide (a0_1 ≥ 2048)) a0_0 a0_1 a0_2 a0_3 l0_4)) = some r:=by rw [if_neg (show ¬ (false = true) by decide)] at H;exact H
    clear H
    have H:=H1
    clear H1
    have HC8:=Aside0.mk H
    clear H
    go_upto_region 3 with (fail)
    go_cut [17] (fun v17 wc => ∃ (kq : Nat) (x17_7 : Bool),v17 = .bool x17_7 ∧ Aside0 (spec_ValidFrame.j1 kq x17_7 a0_0 a0_1 a0_2 a0_3 l0_4 = some r) ∧ Aside0 (kq ≤ kj1) ∧ Aside0 (wc.heap[gb207]? = some (.cells #[.bool a0_0, .int .u32 a0_1, .bool a0_2, .int .i64 a0_3,(.slice A0_4 l0_4.length c0_4)] 45 (0,0))) ∧ Aside0 (Below w.heap.size w wc))
    case first =>
     have H:=HC8.out
     clear HC8
     by_cases c9 : a0_0 = true
     ·subst c9
      have H1 : (spec_ValidFrame.j1 kj1 false true a0_1 a0_2 a0_3 l0_4) = some r:=by rw [if_pos rfl] at H;exact H
      clear H
      have H:=H1
      clear H1
      have H':=Aside0.mk H
      clear H
      obtain ⟨hcz10_0,hcz10_1,hcz10_2,hcz10_3,hcz10_4⟩:=bc5 BK207.out
      obtain ⟨hfz10_0,hfz10_1,hfz10_2,hfz10_3,hfz10_4⟩:=bf5 BK207.out
      go_wp2
      go_meet
      case rel => exact ⟨_,(false),(by first | rfl | (simp;done) | (simp [*];done)),H',⟨by have:=HJ1.out;first | omega | exact Nat.le_refl _⟩,⟨by (with_reducible repeat (first | refine blk_drewN ?_ _ | refine blk_drew ?_ | refine blk_alloc ?_ _));exact BK207.out⟩,⟨by repeat (first | (with_reducible first | exact HB.out | apply below_alloc | apply pw_below_drewN | apply below_drew1 | refine below_set ?_ GE207.out) | exact HB.out)⟩⟩
     ·replace c9:=Bool.eq_false_iff.mpr c9
      subst c9
      have H1 : (spec_ValidFrame.j1 kj1 (decide (a0_1 ≥ 2048)) false a0_1 a0_2 a0_3 l0_4) = some r:=by rw [if_neg (show ¬ (false = true) by decide)] at H;exact H
      clear H
      have H:=H1
      clear H1
      have H':=Aside0.mk H
      clear H
      obtain ⟨hcz11_0,hcz11_1,hcz11_2,hcz11_3,hcz11_4⟩:=bc5 BK207.out
      obtain ⟨hfz11_0,hfz11_1,hfz11_2,hfz11_3,hfz11_4⟩:=bf5 BK207.out
      go_wp2
      go_meet
      case rel => exact ⟨_,(decide (a0_1 ≥ 2048)),(by first | rfl | (simp;done) | (simp [*];done)),H',⟨by have:=HJ1.out;first | omega | exact Nat.le_refl _⟩,⟨by (with_reducible repeat (first | refine blk_drewN ?_ _ | refine blk_drew ?_ | refine blk_alloc ?_ _));exact BK207.out⟩,⟨by repeat (first | (with_reducible first | exact HB.out | apply below_alloc | apply pw_below_drewN | apply below_drew1 | refine below_set ?_ GE207.out) | exact HB.out)⟩⟩
    case rest =>
     clear HC8
     try clear p2
     try clear c4
     try clear c7
     try clear c9
     try clear hcz10_0
     try clear hcz10_1
     try clear hcz10_2
     try clear hcz10_3
     try clear hcz10_4
     try clear hcz11_0
     try clear hcz11_1
     try clear hcz11_2
     try clear hcz11_3
     try clear hcz11_4
     try clear hcz5_0
     try clear hcz5_1
     try clear hcz5_2
     try clear hcz5_3
     try clear hcz5_4
     try clear hcz6_0
     try clear hcz6_1
     try clear hcz6_2
     try clear hcz6_3
     try clear hcz6_4
     try clear hfz10_0
     try clear hfz10_1
     try clear hfz10_2
     try clear hfz10_3
     try clear hfz10_4
     try clear hfz11_0
     try clear hfz11_1
     try clear hfz11_2
     try clear hfz11_3
     try clear hfz11_4
     try clear hfz5_0
     try clear hfz5_1
     try clear hfz5_2
     try clear hfz5_3
     try clear hfz5_4
     try clear hfz6_0
     try clear hfz6_1
     try clear hfz6_2
     try clear hfz6_3
     try clear hfz6_4
     try clear p2
     obtain ⟨kq,x17_7,rfl,HA,HJ7,BK207,HB⟩:=hcut
     cases kq with
     | zero => exact absurd HA.out (by simp [spec_ValidFrame.j1])
     | succ kj7 =>
      have H:=HA.out
      clear HA
      simp only [spec_ValidFrame.j1] at H
      by_cases c12 : x17_7 = true
      ·subst c12
       have H1 : (some false) = some r:=by rw [if_pos rfl] at H;exact H
       clear H
       have H:=H1
       clear H1
       obtain rfl:=Option.some.inj H
       go_wp2
       go_ret
       exact ⟨by first | rfl | (simp [errW_none,errW_some] <;> rfl) | (simp [*,errW_none,errW_some] <;> rfl),by repeat (first | (with_reducible first | exact HB.out | apply below_alloc | apply pw_below_drewN | apply below_drew1 | refine below_set ?_ GE207.out) | exact HB.out)⟩
      ·replace c12:=Bool.eq_false_iff.mpr c12
       subst c12
       have H1 : (if a0_3 < 0 then (some false) else (if a0_3 > 15 then (some false) else ((spec_l1dataLen.f a0_0 a0_1 a0_2 a0_3 l0_4).bind fun t208 => (some ((l0_4.length : Int) == t208))))) = some r:=by rw [if_neg (show ¬ (false = true) by decide)] at H;exact H
       clear H
       have H:=H1
       clear H1
       by_cases c13 : a0_3 < 0
       ·rw [if_pos c13] at H
        have c13b0 : decide (a0_3 < 0) = true:=decide_eq_true c13
        clear c13
        obtain rfl:=Option.some.inj H
        obtain ⟨hcz14_0,hcz14_1,hcz14_2,hcz14_3,hcz14_4⟩:=bc5 BK207.out
        obtain ⟨hfz14_0,hfz14_1,hfz14_2,hfz14_3,hfz14_4⟩:=bf5 BK207.out
        go_wp2
        go_ret
        exact ⟨by first | rfl | (simp [errW_none,errW_some] <;> rfl) | (simp [*,errW_none,errW_some] <;> rfl),by repeat (first | (with_reducible first | exact HB.out | apply below_alloc | apply pw_below_drewN | apply below_drew1 | refine below_set ?_ GE207.out) | exact HB.out)⟩
       ·rw [if_neg c13] at H
        have c13b0 : decide (a0_3 < 0) = false:=decide_eq_false c13
        clear c13
        by_cases c15 : a0_3 > 15
        ·rw [if_pos c15] at H
         have c15b0 : decide (15 < a0_3) = true:=decide_eq_true c15
         clear c15
         obtain rfl:=Option.some.inj H
         obtain ⟨hcz16_0,hcz16_1,hcz16_2,hcz16_3,hcz16_4⟩:=bc5 BK207.out
         obtain ⟨hfz16_0,hfz16_1,hfz16_2,hfz16_3,hfz16_4⟩:=bf5 BK207.out
         go_wp2
         go_ret
         exact ⟨by first | rfl | (simp [errW_none,errW_some] <;> rfl) | (simp [*,errW_none,errW_some] <;> rfl),by repeat (first | (with_reducible first | exact HB.out | apply below_alloc | apply pw_below_drewN | apply below_drew1 | refine below_set ?_ GE207.out) | exact HB.out)⟩
        ·rw [if_neg c15] at H
         have c15b0 : decide (15 < a0_3) = false:=decide_eq_false c15
         clear c15
         replace H:=Option.bind_eq_some_iff.mp H
         obtain ⟨t208,A170,H⟩:=H
         replace H : (some ((l0_4.length : Int) == t208)) = some r:=H
         have A17:=Aside0.mk A170
         clear A170
         obtain rfl:=Option.some.inj H
         obtain ⟨hcz18_0,hcz18_1,hcz18_2,hcz18_3,hcz18_4⟩:=bc5 BK207.out
         obtain ⟨hfz18_0,hfz18_1,hfz18_2,hfz18_3,hfz18_4⟩:=bf5 BK207.out
         try go_wp2
         have n0_:=Aside0.mk (blk_drew BK207.out)
         have n1_:=Aside0.mk (below_drew1 HB.out)
         clear BK207
         clear HB
         have BK207:=n0_
         have HB:=n1_
         clear n0_ n1_
         refine start_ (n:=7) (S:=fun w' => w'.cell? ⟨gb207,0,none⟩ = some (.bool a0_0) ∧ w'.cell? ⟨gb207,1,none⟩ = some (.int .u32 a0_1) ∧ w'.cell? ⟨gb207,2,none⟩ = some (.bool a0_2) ∧ w'.cell? ⟨gb207,3,none⟩ = some (.int .i64 a0_3) ∧ w'.cell? ⟨gb207,4,none⟩ = some (.slice A0_4 l0_4.length c0_4)) (ds := []) #[false,false,false,false,false,false,false] (by kernel_rfl) rfl rfl ⟨(blk_cell BK207.out 0).trans rfl,(blk_cell BK207.out 1).trans rfl,(blk_cell BK207.out 2).trans rfl,(blk_cell BK207.out 3).trans rfl,(blk_cell BK207.out 4).trans rfl⟩ (fun hHeld => ?_)
         generalize wc.drew = w19 at BK207 HB hHeld ⊢
         refine pure_ (i:=0) (N:=some 26) (v := ?_) (a' := ?_) #[true,false,false,false,false,false,false] rfl rfl (by kernel_rfl) (fun _ _ _ h => h) (Or.inl ⟨by rfl, ?_⟩) ?_ ?_
         rotate_left
         ·intro w'
          go_simp
          with_reducible rfl
         rotate_left
         ·simp only [Act.put,List.setIfInBounds_toArray,List.set_cons_zero,List.set_cons_succ,i64_w,i32_w]
          rfl
         refine take_ (i:=1) (N:=some 27) (v := ?_) (a' := ?_) #[true,true,false,false,false,false,false] rfl rfl (by kernel_rfl) (fun _ _ _ h => h) (Or.inl ⟨by rfl, ?_⟩) hHeld ?_ ?_
         rotate_left
         ·rintro w' ⟨s0,s1,s2,s3,s4⟩
          go_simp
          with_reducible rfl
         rotate_left
         ·simp only [Act.put,List.setIfInBounds_toArray,List.set_cons_zero,List.set_cons_succ,i64_w,i32_w]
          rfl
         refine pure_ (i:=2) (N:=some 28) (v := ?_) (a' := ?_) #[true,true,true,false,false,false,false] rfl rfl (by kernel_rfl) (fun _ _ _ h => h) (Or.inl ⟨by rfl, ?_⟩) ?_ ?_
         rotate_left
         ·intro w'
          go_simp
          with_reducible rfl
         rotate_left
         ·simp only [Act.put,List.setIfInBounds_toArray,List.set_cons_zero,List.set_cons_succ,i64_w,i32_w]
          rfl
         refine take_ (i:=3) (N:=some 29) (v := ?_) (a' := ?_) #[true,true,true,true,false,false,false] rfl rfl (by kernel_rfl) (fun _ _ _ h => h) (Or.inl ⟨by rfl, ?_⟩) hHeld ?_ ?_
         rotate_left
         ·rintro w' ⟨s0,s1,s2,s3,s4⟩
          go_simp
          with_reducible rfl
         rotate_left
         ·simp only [Act.put,List.setIfInBounds_toArray,List.set_cons_zero,List.set_cons_succ,i64_w,i32_w]
          rfl
         refine one_ (i:=4) (N:=some 30) #[true,true,true,true,true,false,false] rfl rfl (by kernel_rfl) (by decide) (fun K hK => ?_)
         refine goes_ Try.func115 (by kernel_rfl) rfl #[.agg #[.bool a0_0, .int .u32 a0_1, .bool a0_2, .int .i64 a0_3, .slice A0_4 l0_4.length c0_4]] (by rfl) rfl rfl (by (try simp only [List.map_toArray,List.map_cons,List.map_nil]);first | done | rfl | (simp only [List.length_drop,List.length_take];rfl)) ?_
         with_reducible refine (spec_l1dataLen.calls a0_0 a0_1 a0_2 a0_3 _ _ l0_4 t208 _ ?side1 ?side2 A17.out).mono ?_
         (case side1 => repeat (first | exact (Kd.C_below HR0_4.out HB.out) | (with_reducible refine Kd.C_alloc ?_ _) | (with_reducible refine Kd.C_drewN ?_ _) | (with_reducible refine Kd.C_drew ?_)))
         (case side2 => exact HC0_4.out)
         rintro e w20 ⟨rfl,hb⟩
         refine ⟨_,rfl, ?_⟩
         have n0_:=Aside0.mk (blk_below (g:=gb207) (o := .cells #[.bool a0_0, .int .u32 a0_1, .bool a0_2, .int .i64 a0_3, .slice A0_4 l0_4.length c0_4] 45 (0,0)) (by (with_reducible repeat (first | refine blk_drewN ?_ _ | refine blk_drew ?_ | refine blk_alloc ?_ _));exact BK207.out) hb)
         have n1_:=Aside0.mk (below_step (by repeat (first | (with_reducible first | exact HB.out | apply below_alloc | apply pw_below_drewN | apply below_drew1 | refine below_set ?_ GE207.out) | exact HB.out)) hb)
         clear BK207
         clear HB
         have BK207:=n0_
         have HB:=n1_
         clear n0_ n1_
         (try clear hb)
         (try clear hb2)
         (try clear hk)
         (try clear hi)
         refine hK.out _ _ ⟨(blk_cell BK207.out 0).trans rfl,(blk_cell BK207.out 1).trans rfl,(blk_cell BK207.out 2).trans rfl,(blk_cell BK207.out 3).trans rfl,(blk_cell BK207.out 4).trans rfl⟩ (fun hHeld => ?_)
         clear hK K
         refine norm_ (a' := ?_) ?_ ?_
         rotate_left
         ·show Act.put _ (some 30) _ = _
          simp only [Act.put,List.setIfInBounds_toArray,List.set_cons_zero,List.set_cons_succ,i64_w,i32_w]
          rfl
         refine pure_ (i:=5) (N:=some 31) (v := ?_) (a' := ?_) #[true,true,true,true,true,true,false] rfl rfl (by kernel_rfl) (fun _ _ _ h => h) (Or.inl ⟨by rfl, ?_⟩) ?_ ?_
         rotate_left
         ·intro w'
          go_simp
          with_reducible rfl
         rotate_left
         ·simp only [Act.put,List.setIfInBounds_toArray,List.set_cons_zero,List.set_cons_succ,i64_w,i32_w]
          rfl
         refine pure_ (i:=6) (N:=some 2) (v := ?_) (a' := ?_) #[true,true,true,true,true,true,true] rfl rfl (by kernel_rfl) (fun _ _ _ h => h) (Or.inl ⟨by rfl, ?_⟩) ?_ ?_
         rotate_left
         ·intro w'
          go_simp
          with_reducible rfl
         rotate_left
         ·simp only [Act.put,List.setIfInBounds_toArray,List.set_cons_zero,List.set_cons_succ,i64_w,i32_w]
          rfl
         refine done_ (by kernel_rfl) ?_
         try go_wp2
         go_ret
         exact ⟨by first | rfl | (simp [errW_none,errW_some] <;> rfl) | (simp [*,errW_none,errW_some] <;> rfl),by repeat (first | (with_reducible first | exact HB.out | apply below_alloc | apply pw_below_drewN | apply below_drew1 | refine below_set ?_ GE207.out) | exact HB.out)⟩
end Go.Proofs.Ytcaefabbcjlkdaa.P
namespace Go.Proofs.Ytcaefabbcjlkdaa.P
open Go Go.RowKit Go.Proofs.YtcaefabbcjlkdaaW.PrintWords
set_option linter.unusedVariables false
theorem specValid_ev (e : Bool) (i : Int) (r : Bool) (d : Int) (l : List Int) : Ev (fun k => spec_ValidFrame.f k e i r d l) (validF e i r d l.length):=by
 have hd : ∀ a b c,spec_l1dataLen.f a b r c l = some (dataB r c):=by
  intro a b c
  unfold spec_l1dataLen.f dataB
  cases r
  ·rw [if_neg (show ¬ (false = true) by decide),if_neg (show ¬ (false = true) by decide)]
   by_cases h : c > 8
   ·rw [if_pos h,if_pos (show 8 < c from h)]
   ·rw [if_neg h,if_neg (show ¬ 8 < c from h)]
  ·rfl
 have h1 : ∀ b,Ev (fun k => spec_ValidFrame.j1 k b e i r d l) (!b && (decide (0 ≤ d) && (decide (d ≤ 15) && ((l.length : Int) == dataB r d)))):=by
  intro b
  refine Ev.step (f:=fun _ => some (!b && (decide (0 ≤ d) && (decide (d ≤ 15) && ((l.length : Int) == dataB r d))))) (fun k => ?_) (Ev.now _)
  simp only [spec_ValidFrame.j1]
  cases b
  ·rw [if_neg (by decide)]
   by_cases c1 : d < 0
   ·rw [if_pos c1,decide_eq_false (by omega)];rfl
   ·rw [if_neg c1,decide_eq_true (show 0 ≤ d by omega)]
    by_cases c2 : d > 15
    ·rw [if_pos c2,decide_eq_false (by omega)];rfl
    ·rw [if_neg c2,decide_eq_true (show d ≤ 15 by omega),hd,Option.bind_some];simp
  ·rfl
 have h0 : ∀ b,Ev (fun k => spec_ValidFrame.j0 k b e i r d l) (!b && ((e || decide (i < 2048)) && (decide (0 ≤ d) && (decide (d ≤ 15) && ((l.length : Int) == dataB r d))))):=by
  intro b
  cases b
  ·cases e
   ·refine Ev.step (fun k => ?_) (g:=fun k => spec_ValidFrame.j0 k false false i r d l) (f:=fun k => spec_ValidFrame.j1 k (decide (i ≥ 2048)) false i r d l) ?_
    ·simp only [spec_ValidFrame.j0]
     rw [if_neg (by decide),if_neg (by decide)]
    ·have:=h1 (decide (i ≥ 2048))
     have e1 : (!decide (i ≥ 2048)) = decide (i < 2048):=by
      by_cases c : i < 2048
      ·rw [decide_eq_true c,decide_eq_false (by omega)];rfl
      ·rw [decide_eq_false c,decide_eq_true (by omega)];rfl
     rw [e1] at this
     exact this
   ·refine Ev.step (fun k => ?_) (g:=fun k => spec_ValidFrame.j0 k false true i r d l) (f:=fun k => spec_ValidFrame.j1 k false true i r d l) (h1 false)
    simp only [spec_ValidFrame.j0]
    rw [if_neg (by decide),if_pos trivial]
  ·refine Ev.step (f:=fun _ => some false) (fun k => ?_) (Ev.now _)
   simp only [spec_ValidFrame.j0]
   rfl
 cases e
 ·refine Ev.congr (f:=fun k => spec_ValidFrame.j0 k false false i r d l) (fun k => ?_) (h0 false)
  unfold spec_ValidFrame.f
  rw [if_neg (by decide)]
 ·refine Ev.congr (f:=fun k => spec_ValidFrame.j0 k (decide (i ≥ 536870912)) true i r d l) (fun k => ?_) ?_
  ·unfold spec_ValidFrame.f
   rw [if_pos rfl]
  ·have:=h0 (decide (i ≥ 536870912))
   have e1 : (!decide (i ≥ 536870912)) = decide (i < 536870912):=by
    by_cases c : i < 536870912
    ·rw [decide_eq_true c,decide_eq_false (by omega)];rfl
    ·rw [decide_eq_false c,decide_eq_true (by omega)];rfl
   rw [e1,Bool.true_or,Bool.true_and] at this
   exact this
end Go.Proofs.Ytcaefabbcjlkdaa.P
namespace Go.Proofs.Ytcaefabbcjlkdaa.P
open Go Go.RowKit Go.Deep Go.Proofs.YtcaefabbcjlkdaaW.PrintWords
set_option linter.unusedVariables false
def Reads (P : Program) (t : TypeId) {α : Type} (d : Kd α) (B : α → Prop) : Prop :=
 ∀ (H : Type) (enc : TypeId × Value → H) (w : World) (base : Nat) (spare : Nat → Bool) (held : Bool) (fuel : Nat) (cs : List Value) (x : DataW H × List MemPlace),DataW.trod enc P w base spare held fuel t cs = some x → ∃ v : α,d.K w v cs ∧ B v
theorem reads_int {P : Program} {t : TypeId} {k : IntKind} (h : P.underlying t = some (.int k)) : Reads P t (Kd.int k) (fun n => (Lit.int k n).wf = true):=by
 intro H enc w base spare held fuel cs x hx
 obtain ⟨n,hc,_,hw⟩:=DataW.trod_int h hx
 exact ⟨n,hc,hw⟩
theorem reads_bool {P : Program} {t : TypeId} (h : P.underlying t = some .bool) : Reads P t Kd.bool (fun _ => True):=by
 intro H enc w base spare held fuel cs x hx
 obtain ⟨n,hc,_⟩:=DataW.trod_bool h hx
 exact ⟨n,hc,trivial⟩
theorem reads_slice {P : Program} {t e : TypeId} {α : Type} {d : Kd α} {B : α → Prop} (h : P.underlying t = some (.slice e)) (hc : P.cellsOf e = d.sz) (hd : Reads P e d B) : Reads P t (Kd.slice e d) (fun xs => xs.length ≤ maxLen ∧ ∀ x ∈ xs,B x):=by
 intro H enc w base spare held fuel cs x hx
 rcases open_slice h hx with ⟨rfl,_⟩ | ⟨a,len,cap,m,n,D,Pl,rfl,_,hl,hm,hmm,_,hi⟩
 ·exact ⟨[],⟨none,0,rfl,Nat.le_refl _,rfl,by simp,fun h => absurd h (by simp)⟩,by simp [maxLen],fun x hx => by cases hx⟩
 ·have hlm : len ≤ m:=by rw [hmm];split <;> omega
  have key : ∀ i : Fin len, ∃ v : α,B v ∧ ∃ c,c.length = d.sz ∧ d.K w v c ∧ ∀ j u,c[j]? = some u → w.cell? (a.add (i.val * d.sz + j)) = some u:=by
   intro i
   obtain ⟨cs',h1,h2⟩:=hi i.val (by omega)
   obtain ⟨v,hk,hb⟩:=hd H enc w base spare held n cs' _ h2
   obtain ⟨_,hcl,hat⟩:=World.cells?_some h1
   refine ⟨v,hb,cs',d.K_len hk,hk,fun j u hj => ?_⟩
   have hjl : j < cs'.length:=(List.getElem?_eq_some_iff.1 hj).1
   have:=hat j (by omega)
   rw [← hc, ← Go.Deep.add_add,this,hj]
  have hv : ∃ f : Fin len → α, ∀ i,B (f i) ∧ ∃ c,c.length = d.sz ∧ d.K w (f i) c ∧ ∀ j u,c[j]? = some u → w.cell? (a.add (i.val * d.sz + j)) = some u:=⟨fun i => (key i).choose,fun i => (key i).choose_spec⟩
  obtain ⟨f,hf⟩:=hv
  have hml : len ≤ 9223372036854775807:=by simp only [maxLen] at hm;omega
  refine ⟨List.ofFn f,⟨some a,cap,by rw [List.length_ofFn],by rw [List.length_ofFn];exact hl,rfl,by rw [List.length_ofFn];exact hml,fun _ => ⟨a,rfl,fun j p hj => ?_⟩⟩,by rw [List.length_ofFn];omega,fun x hx => ?_⟩
  ·obtain ⟨hjl,rfl⟩:=List.getElem?_eq_some_iff.1 hj
   rw [List.length_ofFn] at hjl
   rw [List.getElem_ofFn]
   obtain ⟨_,c,h1,h2,h3⟩:=hf ⟨j,hjl⟩
   exact ⟨c,h1,h2,h3⟩
  ·obtain ⟨i,rfl⟩:=(List.mem_ofFn).1 hx
   exact (hf i).1
def ReadsFields (P : Program) (fs : List Field) (o : Nat) {α : Type} (d : Kd α) (B : α → Prop) : Prop :=
 ∀ (H : Type) (enc : TypeId × Value → H) (w : World) (base : Nat) (spare : Nat → Bool) (held : Bool) (fuel : Nat) (cs : List Value),cs.length = o + d.sz →
  (∀ f ∈ fs, ∃ x,DataW.trod enc P w base spare held fuel f.type ((cs.drop f.offset).take (P.cellsOf f.type)) = some x) → ∃ v : α,d.K w v (cs.drop o) ∧ B v
theorem rf_last {P : Program} {f : Field} {o : Nat} {α : Type} {d : Kd α} {B : α → Prop} (ho : f.offset = o) (hc : P.cellsOf f.type = d.sz) (hd : Reads P f.type d B) : ReadsFields P [f] o d B:=by
 intro H enc w base spare held fuel cs hl hf
 obtain ⟨x,hx⟩:=hf f (by simp)
 rw [ho,hc,List.take_of_length_le (by rw [List.length_drop];omega)] at hx
 exact hd H enc w base spare held fuel _ _ hx
theorem rf_cons {P : Program} {f : Field} {fs : List Field} {o : Nat} {α β : Type} {a : Kd α} {b : Kd β} {A : α → Prop} {B : β → Prop} (ho : f.offset = o) (hc : P.cellsOf f.type = a.sz) (ha : Reads P f.type a A) (hb : ReadsFields P fs (o + a.sz) b B) :
  ReadsFields P (f :: fs) o (Kd.pair a b) (fun x => A x.1 ∧ B x.2):=by
 intro H enc w base spare held fuel cs hl hf
 have hl' : cs.length = o + (a.sz + b.sz):=hl
 obtain ⟨x,hx⟩:=hf f List.mem_cons_self
 rw [ho,hc] at hx
 obtain ⟨v,hv,hA⟩:=ha H enc w base spare held fuel _ _ hx
 obtain ⟨u,hu,hB⟩:=hb H enc w base spare held fuel cs (by omega) (fun g hg => hf g (List.mem_cons_of_mem _ hg))
 refine ⟨(v,u),⟨(cs.drop o).take a.sz,cs.drop (o + a.sz), ?_,hv,hu⟩,hA,hB⟩
 rw [← List.drop_drop,List.take_append_drop]
theorem reads_struct {P : Program} {t : TypeId} {fs : Array Field} {α β : Type} {d : Kd α} {B : α → Prop} (f : β → α) (g : α → β) (hfg : ∀ x,f (g x) = x) (h : P.underlying t = some (.struct fs)) (hc : P.cellsOf t = d.sz) (hr : ReadsFields P fs.toList 0 d B) : Reads P t (Kd.iso d f) (fun x => B (f x)):=by
 intro H enc w base spare held fuel cs x hx
 obtain ⟨xs,n,_,_,hl,hxl,hg⟩:=DataW.trod_struct h hx
 obtain ⟨v,hv,hB⟩:=hr H enc w base spare held n cs (by rw [hl,hc];omega) (fun fd hfd => by
  obtain ⟨i,hi,rfl⟩:=List.getElem_of_mem hfd
  have hi' : i < fs.size:=by simpa using hi
  have:=hg i fs[i] (by rw [Array.getElem?_eq_getElem hi'])
  rw [List.getElem?_eq_getElem (show i < xs.length by omega)] at this
  rw [Array.getElem_toList]
  exact ⟨_,this⟩)
 refine ⟨g v, ?_,by show B (f (g v));rw [hfg];exact hB⟩
 show d.K w (f (g v)) cs
 rw [hfg]
 exact hv
end Go.Proofs.Ytcaefabbcjlkdaa.P
namespace Go.Proofs.Ytcaefabbcjlkdaa.P
open Go Go.RowKit Go.Proofs.YtcaefabbcjlkdaaW.PrintWords
theorem okBytes_of {l : List Int} (h : ∀ y ∈ l,(Lit.int .u8 y).wf = true) : okBytes l = true:=by
 unfold okBytes
 rw [List.all_eq_true]
 intro x hx
 have:=h x hx
 simp [Lit.wf,show IntKind.u8.min = 0 from rfl,show IntKind.u8.max = 255 from rfl] at this ⊢
 omega
theorem frame_ok {i : Int} {l : List Int} (hi : (Lit.int .u32 i).wf = true) (hb : ∀ y ∈ l,(Lit.int .u8 y).wf = true) : 0 ≤ i ∧ okBytes l = true:=by
 refine ⟨?_,okBytes_of hb⟩
 simp [Lit.wf,show IntKind.u32.min = 0 from rfl] at hi
 omega
end Go.Proofs.Ytcaefabbcjlkdaa.P
namespace Go.Proofs.Ytcaefabbcjlkdaa.P
open Go.RowKit Go.Proofs.YtcaefabbcjlkdaaW.PrintWords Go.Proofs.YtcaefabbcjlkdaaW.PrintLast Go.Proofs.YtcaefabbcjlkdaaW.PrintMore
set_option linter.unusedVariables false
set_option linter.unusedSimpArgs false
def spec_l1num.f : Nat → Int → Int → Option (ByteArray)
 | 0,_,_ => none
 | k + 1,a0,a1 => if a1 ≤ 0 then (some (⟨#[]⟩ : ByteArray)) else (if (Int.tmod a0 2) = 1 then ((spec_l1num.f k (wrap64 (Int.tdiv a0 2)) (wrap64 (a1 - 1))).bind fun t249 => (if t249.size + 1 ≤ 9223372036854775807 then (some (t249 ++ (⟨#[49]⟩ : ByteArray))) else (none))) else ((spec_l1num.f k (wrap64 (Int.tdiv a0 2)) (wrap64 (a1 - 1))).bind fun t250 => (if t250.size + 1 ≤ 9223372036854775807 then (some (t250 ++ (⟨#[48]⟩ : ByteArray))) else (none))))
set_option maxHeartbeats 8000000 in
set_option maxRecDepth 100000 in
theorem spec_l1num.calls (k : Nat) : ∀ (a0 : Int) (a1 : Int) (r : ByteArray) (w : World) (h : spec_l1num.f k a0 a1 = some r),
  Calls Try.prog 120 #[.int .i64 a0, .int .i64 a1] w fun e w' => e = .returned (.string r) ∧ Drawn0 w w':=by
 induction k using Nat.strongRecOn with
 | _ k ih =>
 intro a0 a1 r w h
 cases k with
 | zero => exact absurd h (by simp [spec_l1num.f])
 | succ k =>
 simp only [spec_l1num.f] at h
 have H : (if a1 ≤ 0 then (some (⟨#[]⟩ : ByteArray)) else (if (Int.tmod a0 2) = 1 then ((spec_l1num.f k (wrap64 (Int.tdiv a0 2)) (wrap64 (a1 - 1))).bind fun t249 => (if t249.size + 1 ≤ 9223372036854775807 then (some (t249 ++ (⟨#[49]⟩ : ByteArray))) else (none))) else ((spec_l1num.f k (wrap64 (Int.tdiv a0 2)) (wrap64 (a1 - 1))).bind fun t250 => (if t250.size + 1 ≤ 9223372036854775807 then (some (t250 ++ (⟨#[48]⟩ : ByteArray))) else (none))))) = some r:=h
 clear h
 by_cases c3 : a1 ≤ 0
 ·rw [if_pos c3] at H
  have c3b0 : decide (a1 ≤ 0) = true:=decide_eq_true c3
  clear c3
  obtain rfl:=Option.some.inj H
  go_enter Try.func120,Try.ntmps120
  go_wp2
  go_ret
  exact ⟨by first | rfl | (simp;done) | (simp [*];done),by repeat (first | exact Drawn0.refl _ | apply Drawn0.step)⟩
 ·rw [if_neg c3] at H
  have c3b0 : decide (a1 ≤ 0) = false:=decide_eq_false c3
  clear c3
  by_cases c4 : (Int.tmod a0 2) = 1
  ·rw [if_pos c4] at H
   have c4b0 : ((Int.tmod a0 2) == 1) = true:=beq_iff_eq.mpr c4
   have c4b1 : ((Int.tmod a0 2) != 1) = false:=bne_eq_false_iff_eq.mpr c4
   clear c4
   replace H:=Option.bind_eq_some_iff.mp H
   obtain ⟨t249,A50,H⟩:=H
   replace H : (if t249.size + 1 ≤ 9223372036854775807 then (some (t249 ++ (⟨#[49]⟩ : ByteArray))) else (none)) = some r:=H
   have A5:=Aside0.mk A50
   clear A50
   by_cases c6 : t249.size + 1 ≤ 9223372036854775807
   ·rw [if_pos c6] at H
    have c6b0:=eq_true c6
    have c6b1 : decide (t249.size + 1 ≤ 9223372036854775807) = true:=decide_eq_true c6
    try have c6b2 : (9223372036854775807 < t249.size + 1) = False:=eq_false (Nat.not_lt.2 c6)
    obtain rfl:=Option.some.inj H
    go_enter Try.func120,Try.ntmps120
    go_wp2_with (first | ((with_reducible refine gate_callee (f:=120) rfl ?_);refine goesL_ (some 15) rfl rfl Try.func120 (by kernel_rfl) rfl #[.int .i64 (wrap64 (Int.tdiv a0 2)), .int .i64 (wrap64 (a1 - 1))] rfl (by (try simp only [List.map_toArray,List.map_cons,List.map_nil]);first | done | rfl | (simp only [List.length_drop,List.length_take];rfl)) ?_;(with_reducible refine (ih k (by omega) (wrap64 (Int.tdiv a0 2)) (wrap64 (a1 - 1)) t249 _ A5.out).mono ?_);rintro e w' ⟨rfl,⟨nd,rfl⟩⟩;refine ⟨_,rfl, ?_⟩))
    go_ret
    exact ⟨by first | rfl | (simp;done) | (simp [*];done),by repeat (first | exact Drawn0.refl _ | apply Drawn0.step)⟩
   ·rw [if_neg c6] at H
    exact absurd H (by simp)
  ·rw [if_neg c4] at H
   have c4b0 : ((Int.tmod a0 2) == 1) = false:=beq_eq_false_iff_ne.mpr c4
   have c4b1 : ((Int.tmod a0 2) != 1) = true:=bne_iff_ne.mpr c4
   replace H:=Option.bind_eq_some_iff.mp H
   obtain ⟨t250,A70,H⟩:=H
   replace H : (if t250.size + 1 ≤ 9223372036854775807 then (some (t250 ++ (⟨#[48]⟩ : ByteArray))) else (none)) = some r:=H
   have A7:=Aside0.mk A70
   clear A70
   by_cases c8 : t250.size + 1 ≤ 9223372036854775807
   ·rw [if_pos c8] at H
    have c8b0:=eq_true c8
    have c8b1 : decide (t250.size + 1 ≤ 9223372036854775807) = true:=decide_eq_true c8
    try have c8b2 : (9223372036854775807 < t250.size + 1) = False:=eq_false (Nat.not_lt.2 c8)
    obtain rfl:=Option.some.inj H
    go_enter Try.func120,Try.ntmps120
    go_wp2_with (first | ((with_reducible refine gate_callee (f:=120) rfl ?_);refine goesL_ (some 15) rfl rfl Try.func120 (by kernel_rfl) rfl #[.int .i64 (wrap64 (Int.tdiv a0 2)), .int .i64 (wrap64 (a1 - 1))] rfl (by (try simp only [List.map_toArray,List.map_cons,List.map_nil]);first | done | rfl | (simp only [List.length_drop,List.length_take];rfl)) ?_;(with_reducible refine (ih k (by omega) (wrap64 (Int.tdiv a0 2)) (wrap64 (a1 - 1)) t250 _ A7.out).mono ?_);rintro e w' ⟨rfl,⟨nd,rfl⟩⟩;refine ⟨_,rfl, ?_⟩))
    go_ret
    exact ⟨by first | rfl | (simp;done) | (simp [*];done),by repeat (first | exact Drawn0.refl _ | apply Drawn0.step)⟩
   ·rw [if_neg c8] at H
    exact absurd H (by simp)
def spec_l1flag.f (a0 : Bool) : Option (ByteArray):=if a0 = true then (some (⟨#[49]⟩ : ByteArray)) else (some (⟨#[48]⟩ : ByteArray))
set_option maxHeartbeats 8000000 in
set_option maxRecDepth 100000 in
theorem spec_l1flag.calls (a0 : Bool) (r : ByteArray) (w : World) (h : spec_l1flag.f a0 = some r) :
  Calls Try.prog 121 #[.bool a0] w fun e w' => e = .returned (.string r) ∧ Drawn0 w w':=by
 have H : (if a0 = true then (some (⟨#[49]⟩ : ByteArray)) else (some (⟨#[48]⟩ : ByteArray))) = some r:=h
 clear h
 by_cases c2 : a0 = true
 ·subst c2
  have H1 : (some (⟨#[49]⟩ : ByteArray)) = some r:=by rw [if_pos rfl] at H;exact H
  clear H
  have H:=H1
  clear H1
  obtain rfl:=Option.some.inj H
  go_enter Try.func121,Try.ntmps121
  go_wp2
  go_ret
  exact ⟨by first | rfl | (simp;done) | (simp [*];done),by repeat (first | exact Drawn0.refl _ | apply Drawn0.step)⟩
 ·replace c2:=Bool.eq_false_iff.mpr c2
  subst c2
  have H1 : (some (⟨#[48]⟩ : ByteArray)) = some r:=by rw [if_neg (show ¬ (false = true) by decide)] at H;exact H
  clear H
  have H:=H1
  clear H1
  obtain rfl:=Option.some.inj H
  go_enter Try.func121,Try.ntmps121
  go_wp2
  go_ret
  exact ⟨by first | rfl | (simp;done) | (simp [*];done),by repeat (first | exact Drawn0.refl _ | apply Drawn0.step)⟩
end Go.Proofs.Ytcaefabbcjlkdaa.P
namespace Go.Proofs.Ytcaefabbcjlkdaa.P
open Go Go.RowKit Go.Proofs.YtcaefabbcjlkdaaW.PrintWords
set_option linter.unusedVariables false
theorem l1num_ev (n : Nat) : ∀ (u : Nat),u < 4294967296 → n ≤ 64 → Ev (fun k => spec_l1num.f k (u : Int) (n : Int)) (strOfNums (numL u n)):=by
 induction n with
 | zero =>
  intro u hu hn
  refine Ev.step (f:=fun _ => some (⟨#[]⟩ : ByteArray)) (fun k => ?_) (Ev.now _)
  simp only [spec_l1num.f]
  rw [if_pos (by omega)]
 | succ n ih =>
  intro u hu hn
  have ih':=ih (u / 2) (by omega) (by omega)
  have e1 : wrap64 (Int.tdiv (u : Int) 2) = ((u / 2 : Nat) : Int):=by
   rw [Int.tdiv_eq_ediv_of_nonneg (by omega)];unfold wrap64;omega
  have e2 : wrap64 (((n + 1 : Nat) : Int) - 1) = (n : Int):=by unfold wrap64;omega
  have e3 : Int.tmod (u : Int) 2 = ((u % 2 : Nat) : Int):=by rw [Int.tmod_eq_emod_of_nonneg (by omega)];omega
  have hsz : (strOfNums (numL (u / 2) n)).size + 1 ≤ 9223372036854775807:=by rw [strOfNums_size,numL_length];omega
  by_cases c : u % 2 = 1
  ·refine Ev.step (f:=fun k => (spec_l1num.f k ((u / 2 : Nat) : Int) (n : Int)).bind fun t => if t.size + 1 ≤ 9223372036854775807 then some (t ++ (⟨#[49]⟩ : ByteArray)) else none) (fun k => ?_) (Ev.bind ih' (ev_pos hsz ?_))
   ·simp only [spec_l1num.f]
    rw [if_neg (by omega),e3,if_pos (by omega),e1,e2]
   ·rw [numL_snoc,c,str_append];exact Ev.now _
  ·refine Ev.step (f:=fun k => (spec_l1num.f k ((u / 2 : Nat) : Int) (n : Int)).bind fun t => if t.size + 1 ≤ 9223372036854775807 then some (t ++ (⟨#[48]⟩ : ByteArray)) else none) (fun k => ?_) (Ev.bind ih' (ev_pos hsz ?_))
   ·simp only [spec_l1num.f]
    rw [if_neg (by omega),e3,if_neg (by omega),e1,e2]
   ·rw [numL_snoc,show u % 2 = 0 by omega,str_append];exact Ev.now _
theorem l1flag_eq (b : Bool) : spec_l1flag.f b = some (strOfNums (flagL b)):=by cases b <;> rfl
end Go.Proofs.Ytcaefabbcjlkdaa.P
namespace Go.Proofs.Ytcaefabbcjlkdaa.P
open Go.RowKit Go.Proofs.YtcaefabbcjlkdaaW.PrintWords Go.Proofs.YtcaefabbcjlkdaaW.PrintLast Go.Proofs.YtcaefabbcjlkdaaW.PrintMore
set_option linter.unusedVariables false
set_option linter.unusedSimpArgs false
def spec_Body.f (a0_0 : Bool) (a0_1 : Int) (a0_2 : Bool) (a0_3 : Int) (l0_4 : List Int) : Option (ByteArray):=if 0 ≤ a0_1 ∧ okBytes l0_4 = true then some (bodyV a0_0 a0_1 a0_2 a0_3 l0_4) else none
theorem spec_l1num.at (x y : Int) (u n : Nat) (w : World) (hx : x = (u : Int)) (hu : u < 4294967296) (hy : y = (n : Int)) (hn : n ≤ 64) :
  Calls Try.prog 120 #[.int .i64 x, .int .i64 y] w fun e w' => e = .returned (.string (strOfNums (numL u n))) ∧ ∃ m,w' = w.drewN m:=by
 subst hx hy
 obtain ⟨k,hk⟩:=(l1num_ev n u hu hn).rounds
 exact (spec_l1num.calls k _ _ _ w hk).mono fun e w' ⟨he,hd⟩ => ⟨he,hd.out⟩
theorem spec_l1flag.at (b : Bool) (w : World) :
  Calls Try.prog 121 #[.bool b] w fun e w' => e = .returned (.string (strOfNums (flagL b))) ∧ ∃ m,w' = w.drewN m :=
 (spec_l1flag.calls b _ w (l1flag_eq b)).mono fun e w' ⟨he,hd⟩ => ⟨he,hd.out⟩
theorem spec_ValidFrame.at (ext : Bool) (id : Int) (rtr : Bool) (dlc : Int) (A : Option Addr) (c : Nat) (l : List Int) (w : World) (hr : Kd.C (Kd.int .u8) w A l.length l) (hc : l.length ≤ c) (b : Bool) (hv : validF ext id rtr dlc l.length = b) :
  Calls Try.prog 75 #[.agg #[.bool ext, .int .u32 id, .bool rtr, .int .i64 dlc, .slice A l.length c]] w fun e w' => e = .returned (.bool b) ∧ Below w.heap.size w w':=by
 subst hv
 obtain ⟨k,hk⟩:=(specValid_ev ext id rtr dlc l).rounds
 exact spec_ValidFrame.calls k ext id rtr dlc A c l _ w hr hc hk
theorem below_drewN {B : Nat} {a w : World} (h : Below B a w) (n : Nat) : Below B a (w.drewN n):=⟨h.os,h.tape,h.output,h.size,h.block⟩
theorem str0 : (⟨#[48]⟩ : ByteArray) = strOfNums [48]:=rfl
theorem str1 : (⟨#[49]⟩ : ByteArray) = strOfNums [49]:=rfl
theorem str00 : (⟨#[48,48]⟩ : ByteArray) = strOfNums [48,48]:=rfl
theorem text_base (id : Int) (rtr : Bool) : (⟨#[48]⟩ : ByteArray) ++ strOfNums (numL id.toNat 11) ++ strOfNums (flagL rtr) ++ ⟨#[48]⟩ ++ ⟨#[48]⟩ = strOfNums (headL false id rtr):=by
 rw [str0, ← str_append, ← str_append, ← str_append, ← str_append]
 congr 1
theorem text_ext29 (id : Int) (rtr : Bool) : (⟨#[48]⟩ : ByteArray) ++ strOfNums (numL (id.toNat / 262144) 11) ++ ⟨#[49]⟩ ++ ⟨#[49]⟩ ++ strOfNums (numL id.toNat 18) ++ strOfNums (flagL rtr) ++ ⟨#[48,48]⟩ = strOfNums (headL true id rtr):=by
 rw [str0,str1,str00, ← str_append, ← str_append, ← str_append, ← str_append, ← str_append, ← str_append]
 congr 1
theorem num29 (u : Nat) : numL u 29 = numL (u / 262144) 11 ++ numL u 18:=numL_add u 11 18
theorem text_left (u : Nat) : (strOfNums (numL u 29)).extract 0 11 = strOfNums (numL (u / 262144) 11):=by
 rw [num29]
 have:=str_extract_left (numL (u / 262144) 11) (numL u 18)
 rw [numL_length] at this
 exact this
theorem text_right (u : Nat) : (strOfNums (numL u 29)).extract 11 29 = strOfNums (numL u 18):=by
 have h:=str_extract_right (numL (u / 262144) 11) (numL u 18)
 rw [← num29,numL_length,strOfNums_size,numL_length] at h
 exact h
set_option maxHeartbeats 4000000 in
theorem spec_Body.yes (ext : Bool) (id : Int) (rtr : Bool) (dlc : Int) (A : Option Addr) (c : Nat) (l : List Int) (w : World) (hr : Kd.C (Kd.int .u8) w A l.length l) (hc : l.length ≤ c) (h0 : 0 ≤ id) (hb : okBytes l = true) (hv : validF ext id rtr dlc l.length = true) :
  Calls Try.prog 78 #[.agg #[.bool ext, .int .u32 id, .bool rtr, .int .i64 dlc, .slice A l.length c]] w fun e w' => e = .returned (.string (strOfNums (bodyL ext id rtr dlc l))) ∧ Below w.heap.size w w':=by
 obtain ⟨hid,hd0,hd1, -,hn8⟩:=valid_parts hv
 have HV:=Lib.hid hv
 have HR:=Lib.hid hr
 have HC:=Lib.hid hc
 have HOB:=Lib.hid hb
 have hid2 : id < 536870912:=by unfold vtop at hid;split at hid <;> omega
 have HID : Hid (ext = false → id < 2048):=Lib.hid (fun e => by rw [e] at hid;exact hid)
 have HU : Hid (id = (id.toNat : Int)):=Lib.hid (by omega)
 have HD : Hid (dlc = (dlc.toNat : Int)):=Lib.hid (by omega)
 have HL : Hid (l.length ≤ 8):=Lib.hid hn8
 have HM8 : Hid (l.length ≤ 9223372036854775807):=Lib.hid hr.2.1
 clear hv hr hc hb hid hn8
 cases ext
 ·go_enter Try.func78,Try.ntmps78
  go_wp2_with (fail)
  (refine (spec_ValidFrame.at false id rtr dlc A c l _ (Kd.C_below HR.out ((Below.refl _ _).alloc (Nat.le_refl _) _)) HC.out true HV.out).mono ?_;rintro e w1 ⟨rfl,hb1⟩;have HB1 : Hid (Below w.heap.size w w1):=Lib.hid (Below.trans ((Below.refl _ _).alloc (Nat.le_refl _) _) (hb1.mono (by simp)));have HBOX:=Lib.hid (blk_below (blk_new w _) hb1);clear hb1;have hc0:=blk_cell HBOX.out 0;have hc1:=blk_cell HBOX.out 1;have hc2:=blk_cell HBOX.out 2;have hc3:=blk_cell HBOX.out 3;have hc4:=blk_cell HBOX.out 4;simp only [box5_0,box5_1,box5_2,box5_3,box5_4] at hc0 hc1 hc2 hc3 hc4)
  go_wp2_with (fail)
  have hw : IntKind.i64.wrap id = id:=by rw [IntKind.wrap_i64];omega
  have hs1 : (strOfNums (numL id.toNat 11)).size = 11:=by rw [strOfNums_size,numL_length]
  have hs2 : (strOfNums (flagL rtr)).size = 1:=by rw [strOfNums_size];rfl
  go_quiet ((first | (go_at_call 120;exact Calls.quiet_of (spec_l1num.at _ 11 id.toNat 11 _ HU.out (by omega) rfl (by omega))) | (go_at_call 121;exact Calls.quiet_of (spec_l1flag.at _ _))))
  go_wp2_with (fail)
  rw [text_base]
  (refine (spec_l1num.at dlc 4 dlc.toNat 4 _ HD.out (by omega) rfl (by omega)).mono ?_;rintro e w2 ⟨rfl,m2,rfl⟩)
  have HS1 : (strOfNums (headL false id rtr)).size ≤ 35:=by rw [strOfNums_size];exact headL_length _ _ _
  have HS2 : (strOfNums (numL dlc.toNat 4)).size = 4:=by rw [strOfNums_size,numL_length]
  go_wp2_with (fail)
  have HBL:=below_drewN HB1.out
  have HBX:=HBOX.out
  clear hc0 hc1 hc2 hc3 hc4 HBOX
  go_loopw [5,3] (fun v5 v3 wr => ∃ (i : Nat),i ≤ l.length ∧ v5 = .int .i64 i ∧ v3 = .string (strOfNums (headL false id rtr ++ (numL dlc.toNat 4 ++ dataL (l.take i)))) ∧ Aside0 (Below w.heap.size w wr) ∧ Aside0 (wr.heap[w.heap.size]? = some (.cells #[.bool false, .int .u32 id, .bool rtr, .int .i64 dlc, .slice A l.length c] 45 (0,0)))) (fun v5 _ _ => l.length - (intOf v5).toNat)
  case atStart => exact ⟨0,Nat.zero_le _,rfl,by rw [← str_append,List.take_zero];simp [dataL],⟨HBL _⟩,⟨HBX⟩⟩
  case round =>
   obtain ⟨i,hi,rfl,rfl,HB,HBOX⟩:=hrel
   have hc0:=blk_cell HBOX.out 0;have hc1:=blk_cell HBOX.out 1;have hc2:=blk_cell HBOX.out 2;have hc3:=blk_cell HBOX.out 3;have hc4:=blk_cell HBOX.out 4;simp only [box5_0,box5_1,box5_2,box5_3,box5_4] at hc0 hc1 hc2 hc3 hc4
   have hsz : (strOfNums (headL false id rtr ++ (numL dlc.toNat 4 ++ dataL (l.take i)))).size ≤ 103:=by
    have h1:=headL_length false id rtr;have h2:=dataL_length (l.take i);have h3:=HL.out;rw [strOfNums_size];simp [numL_length] at h1 h2 ⊢;omega
   by_cases hlt : i < l.length
   ·obtain ⟨ad,ea,hcell⟩:=Kd.at_int (Kd.C_below HR.out HB.out) (i : Int) (by omega) (by omega)
    subst ea
    have HBY:=Lib.hid (okBytes_at HOB.out i hlt)
    have HX : Hid (rd l (i : Int) = ((rd l (i : Int)).toNat : Int)):=Lib.hid (by have:=HBY.out;omega)
    rw [HX.out,Int.toNat_natCast] at hcell
    generalize hxx : (rd l (i : Int)).toNat = x at hcell
    have HXX : Hid (x = (rd l (i : Int)).toNat ∧ x < 256):=Lib.hid ⟨hxx.symm,by have:=HBY.out;omega⟩
    have hx256 : x < 256:=HXX.out.2
    have hm8:=HM8.out
    clear hxx
    go_wp2_with (fail)
    (refine (spec_l1num.at (x : Int) 8 x 8 _ rfl (by omega) rfl (by omega)).mono ?_;rintro e w3 ⟨rfl,m3,rfl⟩)
    have HS3 : (strOfNums (numL x 8)).size = 8:=by rw [strOfNums_size,numL_length]
    go_wp2_with (fail)
    go_roundw
    case rel => exact ⟨i + 1,hlt,by go_num,by rw [← str_append,take_next l i hlt,dataL_snoc,HXX.out.1];simp only [List.append_assoc],⟨below_drewN HB.out _⟩,⟨HBOX.out⟩⟩
    case measure => simp [intOf];omega
   ·obtain rfl : i = l.length:=by omega
    go_wp2_with (fail)
    go_ret
    exact ⟨by rw [List.take_length];unfold bodyL;rw [List.append_assoc];rfl,HB.out⟩
 ·go_enter Try.func78,Try.ntmps78
  go_wp2_with (fail)
  (refine (spec_ValidFrame.at true id rtr dlc A c l _ (Kd.C_below HR.out ((Below.refl _ _).alloc (Nat.le_refl _) _)) HC.out true HV.out).mono ?_;rintro e w1 ⟨rfl,hb1⟩;have HB1 : Hid (Below w.heap.size w w1):=Lib.hid (Below.trans ((Below.refl _ _).alloc (Nat.le_refl _) _) (hb1.mono (by simp)));have HBOX:=Lib.hid (blk_below (blk_new w _) hb1);clear hb1;have hc0:=blk_cell HBOX.out 0;have hc1:=blk_cell HBOX.out 1;have hc2:=blk_cell HBOX.out 2;have hc3:=blk_cell HBOX.out 3;have hc4:=blk_cell HBOX.out 4;simp only [box5_0,box5_1,box5_2,box5_3,box5_4] at hc0 hc1 hc2 hc3 hc4)
  go_wp2_with (fail)
  have hw : IntKind.i64.wrap id = id:=by rw [IntKind.wrap_i64];omega
  (refine (spec_l1num.at id 29 id.toNat 29 _ HU.out (by omega) rfl (by omega)).mono ?_;rintro e wn ⟨rfl,mn,rfl⟩)
  have hs2 : (strOfNums (flagL rtr)).size = 1:=by rw [strOfNums_size];rfl
  have hs3 : (strOfNums (numL id.toNat 29)).size = 29:=by rw [strOfNums_size,numL_length]
  have hs4 : (strOfNums (numL (id.toNat / 262144) 11)).size = 11:=by rw [strOfNums_size,numL_length]
  have hs5 : (strOfNums (numL id.toNat 18)).size = 18:=by rw [strOfNums_size,numL_length]
  have hx1 : (strOfNums (numL id.toNat 29)).extract 0 11 = strOfNums (numL (id.toNat / 262144) 11):=text_left id.toNat
  have hx2 : (strOfNums (numL id.toNat 29)).extract 11 29 = strOfNums (numL id.toNat 18):=text_right id.toNat
  go_wp2_with (fail)
  obtain ⟨W,hW⟩ : ∃ W,W = w1.drewN mn:=⟨_,rfl⟩
  rw [← hW]
  (have HBX : Hid (W.heap[w.heap.size]? = some (.cells #[.bool true, .int .u32 id, .bool rtr, .int .i64 dlc, .slice A l.length c] 45 (0,0))):=Lib.hid (by rw [hW];exact HBOX.out);have HBW : Hid (Below w.heap.size w W):=Lib.hid (by rw [hW];exact below_drewN HB1.out _);clear hc0 hc1 hc2 hc3 hc4 hW HBOX HB1;have HBOX:=HBX;have HB1:=HBW;clear HBX HBW;have hc0:=blk_cell HBOX.out 0;have hc1:=blk_cell HBOX.out 1;have hc2:=blk_cell HBOX.out 2;have hc3:=blk_cell HBOX.out 3;have hc4:=blk_cell HBOX.out 4;simp only [box5_0,box5_1,box5_2,box5_3,box5_4] at hc0 hc1 hc2 hc3 hc4)
  go_quiet ((first | (go_at_call 121;exact Calls.quiet_of (spec_l1flag.at _ _))))
  go_wp2_with (fail)
  rw [text_ext29]
  (refine (spec_l1num.at dlc 4 dlc.toNat 4 _ HD.out (by omega) rfl (by omega)).mono ?_;rintro e w2 ⟨rfl,m2,rfl⟩)
  have HS1 : (strOfNums (headL true id rtr)).size ≤ 35:=by rw [strOfNums_size];exact headL_length _ _ _
  have HS2 : (strOfNums (numL dlc.toNat 4)).size = 4:=by rw [strOfNums_size,numL_length]
  go_wp2_with (fail)
  have HBL:=below_drewN HB1.out
  have HBX:=HBOX.out
  clear hc0 hc1 hc2 hc3 hc4 HBOX
  go_loopw [5,3] (fun v5 v3 wr => ∃ (i : Nat),i ≤ l.length ∧ v5 = .int .i64 i ∧ v3 = .string (strOfNums (headL true id rtr ++ (numL dlc.toNat 4 ++ dataL (l.take i)))) ∧ Aside0 (Below w.heap.size w wr) ∧ Aside0 (wr.heap[w.heap.size]? = some (.cells #[.bool true, .int .u32 id, .bool rtr, .int .i64 dlc, .slice A l.length c] 45 (0,0)))) (fun v5 _ _ => l.length - (intOf v5).toNat)
  case atStart => exact ⟨0,Nat.zero_le _,rfl,by rw [← str_append,List.take_zero];simp [dataL],⟨HBL _⟩,⟨HBX⟩⟩
  case round =>
   obtain ⟨i,hi,rfl,rfl,HB,HBOX⟩:=hrel
   have hc0:=blk_cell HBOX.out 0;have hc1:=blk_cell HBOX.out 1;have hc2:=blk_cell HBOX.out 2;have hc3:=blk_cell HBOX.out 3;have hc4:=blk_cell HBOX.out 4;simp only [box5_0,box5_1,box5_2,box5_3,box5_4] at hc0 hc1 hc2 hc3 hc4
   have hsz : (strOfNums (headL true id rtr ++ (numL dlc.toNat 4 ++ dataL (l.take i)))).size ≤ 103:=by
    have h1:=headL_length true id rtr;have h2:=dataL_length (l.take i);have h3:=HL.out;rw [strOfNums_size];simp [numL_length] at h1 h2 ⊢;omega
   by_cases hlt : i < l.length
   ·obtain ⟨ad,ea,hcell⟩:=Kd.at_int (Kd.C_below HR.out HB.out) (i : Int) (by omega) (by omega)
    subst ea
    have HBY:=Lib.hid (okBytes_at HOB.out i hlt)
    have HX : Hid (rd l (i : Int) = ((rd l (i : Int)).toNat : Int)):=Lib.hid (by have:=HBY.out;omega)
    rw [HX.out,Int.toNat_natCast] at hcell
    generalize hxx : (rd l (i : Int)).toNat = x at hcell
    have HXX : Hid (x = (rd l (i : Int)).toNat ∧ x < 256):=Lib.hid ⟨hxx.symm,by have:=HBY.out;omega⟩
    have hx256 : x < 256:=HXX.out.2
    have hm8:=HM8.out
    clear hxx
    go_wp2_with (fail)
    (refine (spec_l1num.at (x : Int) 8 x 8 _ rfl (by omega) rfl (by omega)).mono ?_;rintro e w3 ⟨rfl,m3,rfl⟩)
    have HS3 : (strOfNums (numL x 8)).size = 8:=by rw [strOfNums_size,numL_length]
    go_wp2_with (fail)
    go_roundw
    case rel => exact ⟨i + 1,hlt,by go_num,by rw [← str_append,take_next l i hlt,dataL_snoc,HXX.out.1];simp only [List.append_assoc],⟨below_drewN HB.out _⟩,⟨HBOX.out⟩⟩
    case measure => simp [intOf];omega
   ·obtain rfl : i = l.length:=by omega
    go_wp2_with (fail)
    go_ret
    exact ⟨by rw [List.take_length];unfold bodyL;rw [List.append_assoc];rfl,HB.out⟩
theorem spec_Body.calls (a0_0 : Bool) (a0_1 : Int) (a0_2 : Bool) (a0_3 : Int) (A0_4 : Option Addr) (c0_4 : Nat) (l0_4 : List Int) (r : ByteArray) (w : World) (hr0_4 : Kd.C (Kd.int .u8) w A0_4 l0_4.length l0_4) (hc0_4 : l0_4.length ≤ c0_4) (h : spec_Body.f a0_0 a0_1 a0_2 a0_3 l0_4 = some r) :
  Calls Try.prog 78 #[.agg #[.bool a0_0, .int .u32 a0_1, .bool a0_2, .int .i64 a0_3, .slice A0_4 l0_4.length c0_4]] w fun e w' => e = .returned (.string r) ∧ Below w.heap.size w w':=by
 unfold spec_Body.f at h
 by_cases c : 0 ≤ a0_1 ∧ okBytes l0_4 = true
 ·rw [if_pos c] at h
  have hr:=(Option.some.inj h).symm
  unfold bodyV at hr
  cases hv : validF a0_0 a0_1 a0_2 a0_3 l0_4.length with
  | true =>
   rw [hv,if_pos rfl] at hr
   subst hr
   exact spec_Body.yes a0_0 a0_1 a0_2 a0_3 A0_4 c0_4 l0_4 w hr0_4 hc0_4 c.1 c.2 hv
  | false =>
   rw [hv] at hr
   subst hr
   have HV:=Lib.hid hv
   have HR:=Lib.hid hr0_4
   have HC:=Lib.hid hc0_4
   have HM8 : Hid (l0_4.length ≤ 9223372036854775807):=Lib.hid hr0_4.2.1
   clear hr0_4 hc0_4 hv c h
   go_enter Try.func78,Try.ntmps78
   go_wp2_with (fail)
   (refine (spec_ValidFrame.at a0_0 a0_1 a0_2 a0_3 A0_4 c0_4 l0_4 _ (Kd.C_below HR.out ((Below.refl _ _).alloc (Nat.le_refl _) _)) HC.out false HV.out).mono ?_;rintro e w1 ⟨rfl,hb1⟩;have HB1 : Hid (Below w.heap.size w w1):=Lib.hid (Below.trans ((Below.refl _ _).alloc (Nat.le_refl _) _) (hb1.mono (by simp)));clear hb1)
   go_wp2_with (fail)
   go_ret
   exact ⟨rfl,HB1.out⟩
 ·rw [if_neg c] at h
  cases h
def spec_Arb.f (k : Nat) (a0_0 : Bool) (a0_1 : Int) (a0_2 : Bool) (a0_3 : Int) (l0_4 : List Int) : Option (ByteArray):=(spec_ValidFrame.f k a0_0 a0_1 a0_2 a0_3 l0_4).bind fun t252 => (if t252 = true then ((spec_Body.f a0_0 a0_1 a0_2 a0_3 l0_4).bind fun t253 => (if a0_0 = true then (if 1 ≤ 33 then (if 33 ≤ (t253.size : Int) then (some (t253.extract 1 33)) else (none)) else (none)) else (if 1 ≤ 14 then (if 14 ≤ (t253.size : Int) then (some (t253.extract 1 14)) else (none)) else (none)))) else (some (⟨#[]⟩ : ByteArray)))
set_option maxHeartbeats 8000000 in
set_option maxRecDepth 100000 in
theorem spec_Arb.calls (k : Nat) (a0_0 : Bool) (a0_1 : Int) (a0_2 : Bool) (a0_3 : Int) (A0_4 : Option Addr) (c0_4 : Nat) (l0_4 : List Int) (r : ByteArray) (w : World) (hr0_4 : Kd.C (Kd.int .u8) w A0_4 l0_4.length l0_4) (hc0_4 : l0_4.length ≤ c0_4) (h : spec_Arb.f k a0_0 a0_1 a0_2 a0_3 l0_4 = some r) :
  Calls Try.prog 26 #[.agg #[.bool a0_0, .int .u32 a0_1, .bool a0_2, .int .i64 a0_3, .slice A0_4 l0_4.length c0_4]] w fun e w' => e = .returned (.string r) ∧ Below w.heap.size w w':=by
 have hu45:=Try.underlying45
 have HR0_4:=Aside0.mk hr0_4
 have HC0_4:=Aside0.mk hc0_4
 clear hr0_4 hc0_4
 have HB:=Aside0.mk (Below.refl w.heap.size w)
 have H : ((spec_ValidFrame.f k a0_0 a0_1 a0_2 a0_3 l0_4).bind fun t252 => (if t252 = true then ((spec_Body.f a0_0 a0_1 a0_2 a0_3 l0_4).bind fun t253 => (if a0_0 = true then (if 1 ≤ 33 then (if 33 ≤ (t253.size : Int) then (some (t253.extract 1 33)) else (none)) else (none)) else (if 1 ≤ 14 then (if 14 ≤ (t253.size : Int) then (some (t253.extract 1 14)) else (none)) else (none)))) else (some (⟨#[]⟩ : ByteArray)))) = some r:=h
 clear h
 replace H:=Option.bind_eq_some_iff.mp H
 obtain ⟨t252,A20,H⟩:=H
 replace H : (if t252 = true then ((spec_Body.f a0_0 a0_1 a0_2 a0_3 l0_4).bind fun t253 => (if a0_0 = true then (if 1 ≤ 33 then (if 33 ≤ (t253.size : Int) then (some (t253.extract 1 33)) else (none)) else (none)) else (if 1 ≤ 14 then (if 14 ≤ (t253.size : Int) then (some (t253.extract 1 14)) else (none)) else (none)))) else (some (⟨#[]⟩ : ByteArray))) = some r:=H
 have A2:=Aside0.mk A20
 clear A20
 by_cases c3 : t252 = true
 ·subst c3
  have H1 : ((spec_Body.f a0_0 a0_1 a0_2 a0_3 l0_4).bind fun t253 => (if a0_0 = true then (if 1 ≤ 33 then (if 33 ≤ (t253.size : Int) then (some (t253.extract 1 33)) else (none)) else (none)) else (if 1 ≤ 14 then (if 14 ≤ (t253.size : Int) then (some (t253.extract 1 14)) else (none)) else (none)))) = some r:=by rw [if_pos rfl] at H;exact H
  clear H
  have H:=H1
  clear H1
  replace H:=Option.bind_eq_some_iff.mp H
  obtain ⟨t253,A40,H⟩:=H
  replace H : (if a0_0 = true then (if 1 ≤ 33 then (if 33 ≤ (t253.size : Int) then (some (t253.extract 1 33)) else (none)) else (none)) else (if 1 ≤ 14 then (if 14 ≤ (t253.size : Int) then (some (t253.extract 1 14)) else (none)) else (none))) = some r:=H
  have A4:=Aside0.mk A40
  clear A40
  by_cases c5 : a0_0 = true
  ·subst c5
   have H1 : (if 1 ≤ 33 then (if 33 ≤ (t253.size : Int) then (some (t253.extract 1 33)) else (none)) else (none)) = some r:=by rw [if_pos rfl] at H;exact H
   clear H
   have H:=H1
   clear H1
   by_cases c6 : 1 ≤ 33
   ·rw [if_pos c6] at H
    have c6b0:=eq_true c6
    have c6b1 : decide (1 ≤ 33) = true:=decide_eq_true c6
    clear c6
    by_cases c7 : 33 ≤ (t253.size : Int)
    ·rw [if_pos c7] at H
     have c7b0:=eq_true c7
     have c7b1 : decide (33 ≤ (t253.size : Int)) = true:=decide_eq_true c7
     clear c7
     obtain rfl:=Option.some.inj H
     go_enter Try.func26,Try.ntmps26
     go_wp2_with (first | ((with_reducible refine gate_dst (N:=1) rfl ?_);refine box_event ?hg (N:=1) ?hd (cs := #[.bool true, .int .u32 a0_1, .bool a0_2, .int .i64 a0_3, .slice A0_4 l0_4.length c0_4]) (t:=45) ?hr ?_;(case hd => rfl);(case hg => rfl);(case hr => first | (go_simp;done) | (go_simp;rfl));intro gb251 hg w8 hbox hb;have n0_:=Aside0.mk (below_step (by repeat (first | (with_reducible first | exact HB.out | apply below_alloc | apply pw_below_drewN | apply below_drew1) | exact HB.out)) hb);have n1_:=Aside0.mk (hbox);have n2_:=Aside0.mk ((by rw [hg];exact (below_size (by repeat (first | (with_reducible first | exact HB.out | apply below_alloc | apply pw_below_drewN | apply below_drew1) | exact HB.out))) : w.heap.size ≤ gb251));have n3_:=Aside0.mk ((by rw [hg];exact (below_size (by repeat (first | (with_reducible first | exact HB.out | apply below_alloc | apply pw_below_drewN | apply below_drew1) | exact HB.out))) : w.heap.size ≤ gb251));clear HB;have HB:=n0_;have BK251:=n1_;have GW251:=n2_;have GE251:=n3_;clear n0_ n1_ n2_ n3_;clear hb hbox hg;obtain ⟨hcz9_0,hcz9_1,hcz9_2,hcz9_3,hcz9_4⟩:=bc5 BK251.out;obtain ⟨hfz9_0,hfz9_1,hfz9_2,hfz9_3,hfz9_4⟩:=bf5 BK251.out) | ((with_reducible refine gate_callee (f:=75) rfl ?_);refine goesL_ (some 5) rfl rfl Try.func75 (by kernel_rfl) rfl #[.agg #[.bool true, .int .u32 a0_1, .bool a0_2, .int .i64 a0_3, .slice A0_4 l0_4.length c0_4]] rfl (by (try simp only [List.map_toArray,List.map_cons,List.map_nil]);first | done | rfl | (simp only [List.length_drop,List.length_take];rfl)) ?_;(with_reducible refine (spec_ValidFrame.calls k true a0_1 a0_2 a0_3 _ _ l0_4 true _ ?side1 ?side2 A2.out).mono ?_);(case side1 => repeat (first | exact (Kd.C_below HR0_4.out HB.out) | (with_reducible refine Kd.C_alloc ?_ _) | (with_reducible refine Kd.C_drewN ?_ _) | (with_reducible refine Kd.C_drew ?_)));(case side2 => exact HC0_4.out);rintro e w10 ⟨rfl,hb⟩;refine ⟨_,rfl, ?_⟩;have n0_:=Aside0.mk (blk_below (g:=gb251) (o := .cells #[.bool true, .int .u32 a0_1, .bool a0_2, .int .i64 a0_3, .slice A0_4 l0_4.length c0_4] 45 (0,0)) (by (with_reducible repeat (first | refine blk_drewN ?_ _ | refine blk_drew ?_ | refine blk_alloc ?_ _));exact BK251.out) hb);have n1_:=Aside0.mk (below_step (by repeat (first | (with_reducible first | exact HB.out | apply below_alloc | apply pw_below_drewN | apply below_drew1 | refine below_set ?_ GE251.out) | exact HB.out)) hb);clear BK251;clear HB;have BK251:=n0_;have HB:=n1_;clear n0_ n1_;(try clear hb);(try clear hb2);(try clear hk);(try clear hi);obtain ⟨hcz11_0,hcz11_1,hcz11_2,hcz11_3,hcz11_4⟩:=bc5 BK251.out;obtain ⟨hfz11_0,hfz11_1,hfz11_2,hfz11_3,hfz11_4⟩:=bf5 BK251.out) | ((with_reducible refine gate_callee (f:=78) rfl ?_);refine goesL_ (some 8) rfl rfl Try.func78 (by kernel_rfl) rfl #[.agg #[.bool true, .int .u32 a0_1, .bool a0_2, .int .i64 a0_3, .slice A0_4 l0_4.length c0_4]] rfl (by (try simp only [List.map_toArray,List.map_cons,List.map_nil]);first | done | rfl | (simp only [List.length_drop,List.length_take];rfl)) ?_;(with_reducible refine (spec_Body.calls true a0_1 a0_2 a0_3 _ _ l0_4 t253 _ ?side1 ?side2 A4.out).mono ?_);(case side1 => repeat (first | exact (Kd.C_below HR0_4.out HB.out) | (with_reducible refine Kd.C_alloc ?_ _) | (with_reducible refine Kd.C_drewN ?_ _) | (with_reducible refine Kd.C_drew ?_)));(case side2 => exact HC0_4.out);rintro e w12 ⟨rfl,hb⟩;refine ⟨_,rfl, ?_⟩;have n0_:=Aside0.mk (blk_below (g:=gb251) (o := .cells #[.bool true, .int .u32 a0_1, .bool a0_2, .int .i64 a0_3, .slice A0_4 l0_4.length c0_4] 45 (0,0)) (by (with_reducible repeat (first | refine blk_drewN ?_ _ | refine blk_drew ?_ | refine blk_alloc ?_ _));exact BK251.out) hb);have n1_:=Aside0.mk (below_step (by repeat (first | (with_reducible first | exact HB.out | apply below_alloc | apply pw_below_drewN | apply below_drew1 | refine below_set ?_ GE251.out) | exact HB.out)) hb);clear BK251;clear HB;have BK251:=n0_;have HB:=n1_;clear n0_ n1_;(try clear hb);(try clear hb2);(try clear hk);(try clear hi);obtain ⟨hcz13_0,hcz13_1,hcz13_2,hcz13_3,hcz13_4⟩:=bc5 BK251.out;obtain ⟨hfz13_0,hfz13_1,hfz13_2,hfz13_3,hfz13_4⟩:=bf5 BK251.out))
     go_ret
     exact ⟨by first | rfl | (simp [errW_none,errW_some] <;> rfl) | (simp [*,errW_none,errW_some] <;> rfl),by repeat (first | (with_reducible first | exact HB.out | apply below_alloc | apply pw_below_drewN | apply below_drew1 | refine below_set ?_ GE251.out) | exact HB.out)⟩
    ·rw [if_neg c7] at H
     exact absurd H (by simp)
   ·rw [if_neg c6] at H
    exact absurd H (by simp)
  ·replace c5:=Bool.eq_false_iff.mpr c5
   subst c5
   have H1 : (if 1 ≤ 14 then (if 14 ≤ (t253.size : Int) then (some (t253.extract 1 14)) else (none)) else (none)) = some r:=by rw [if_neg (show ¬ (false = true) by decide)] at H;exact H
   clear H
   have H:=H1
   clear H1
   by_cases c14 : 1 ≤ 14
   ·rw [if_pos c14] at H
    have c14b0:=eq_true c14
    have c14b1 : decide (1 ≤ 14) = true:=decide_eq_true c14
    clear c14
    by_cases c15 : 14 ≤ (t253.size : Int)
    ·rw [if_pos c15] at H
     have c15b0:=eq_true c15
     have c15b1 : decide (14 ≤ (t253.size : Int)) = true:=decide_eq_true c15
     clear c15
     obtain rfl:=Option.some.inj H
     go_enter Try.func26,Try.ntmps26
     go_wp2_with (first | ((with_reducible refine gate_dst (N:=1) rfl ?_);refine box_event ?hg (N:=1) ?hd (cs := #[.bool false, .int .u32 a0_1, .bool a0_2, .int .i64 a0_3, .slice A0_4 l0_4.length c0_4]) (t:=45) ?hr ?_;(case hd => rfl);(case hg => rfl);(case hr => first | (go_simp;done) | (go_simp;rfl));intro gb251 hg w16 hbox hb;have n0_:=Aside0.mk (below_step (by repeat (first | (with_reducible first | exact HB.out | apply below_alloc | apply pw_below_drewN | apply below_drew1) | exact HB.out)) hb);have n1_:=Aside0.mk (hbox);have n2_:=Aside0.mk ((by rw [hg];exact (below_size (by repeat (first | (with_reducible first | exact HB.out | apply below_alloc | apply pw_below_drewN | apply below_drew1) | exact HB.out))) : w.heap.size ≤ gb251));have n3_:=Aside0.mk ((by rw [hg];exact (below_size (by repeat (first | (with_reducible first | exact HB.out | apply below_alloc | apply pw_below_drewN | apply below_drew1) | exact HB.out))) : w.heap.size ≤ gb251));clear HB;have HB:=n0_;have BK251:=n1_;have GW251:=n2_;have GE251:=n3_;clear n0_ n1_ n2_ n3_;clear hb hbox hg;obtain ⟨hcz17_0,hcz17_1,hcz17_2,hcz17_3,hcz17_4⟩:=bc5 BK251.out;obtain ⟨hfz17_0,hfz17_1,hfz17_2,hfz17_3,hfz17_4⟩:=bf5 BK251.out) | ((with_reducible refine gate_callee (f:=75) rfl ?_);refine goesL_ (some 5) rfl rfl Try.func75 (by kernel_rfl) rfl #[.agg #[.bool false, .int .u32 a0_1, .bool a0_2, .int .i64 a0_3, .slice A0_4 l0_4.length c0_4]] rfl (by (try simp only [List.map_toArray,List.map_cons,List.map_nil]);first | done | rfl | (simp only [List.length_drop,List.length_take];rfl)) ?_;(with_reducible refine (spec_ValidFrame.calls k false a0_1 a0_2 a0_3 _ _ l0_4 true _ ?side1 ?side2 A2.out).mono ?_);(case side1 => repeat (first | exact (Kd.C_below HR0_4.out HB.out) | (with_reducible refine Kd.C_alloc ?_ _) | (with_reducible refine Kd.C_drewN ?_ _) | (with_reducible refine Kd.C_drew ?_)));(case side2 => exact HC0_4.out);rintro e w18 ⟨rfl,hb⟩;refine ⟨_,rfl, ?_⟩;have n0_:=Aside0.mk (blk_below (g:=gb251) (o := .cells #[.bool false, .int .u32 a0_1, .bool a0_2, .int .i64 a0_3, .slice A0_4 l0_4.length c0_4] 45 (0,0)) (by (with_reducible repeat (first | refine blk_drewN ?_ _ | refine blk_drew ?_ | refine blk_alloc ?_ _));exact BK251.out) hb);have n1_:=Aside0.mk (below_step (by repeat (first | (with_reducible first | exact HB.out | apply below_alloc | apply pw_below_drewN | apply below_drew1 | refine below_set ?_ GE251.out) | exact HB.out)) hb);clear BK251;clear HB;have BK251:=n0_;have HB:=n1_;clear n0_ n1_;(try clear hb);(try clear hb2);(try clear hk);(try clear hi);obtain ⟨hcz19_0,hcz19_1,hcz19_2,hcz19_3,hcz19_4⟩:=bc5 BK251.out;obtain ⟨hfz19_0,hfz19_1,hfz19_2,hfz19_3,hfz19_4⟩:=bf5 BK251.out) | ((with_reducible refine gate_callee (f:=78) rfl ?_);refine goesL_ (some 8) rfl rfl Try.func78 (by kernel_rfl) rfl #[.agg #[.bool false, .int .u32 a0_1, .bool a0_2, .int .i64 a0_3, .slice A0_4 l0_4.length c0_4]] rfl (by (try simp only [List.map_toArray,List.map_cons,List.map_nil]);first | done | rfl | (simp only [List.length_drop,List.length_take];rfl)) ?_;(with_reducible refine (spec_Body.calls false a0_1 a0_2 a0_3 _ _ l0_4 t253 _ ?side1 ?side2 A4.out).mono ?_);(case side1 => repeat (first | exact (Kd.C_below HR0_4.out HB.out) | (with_reducible refine Kd.C_alloc ?_ _) | (with_reducible refine Kd.C_drewN ?_ _) | (with_reducible refine Kd.C_drew ?_)));(case side2 => exact HC0_4.out);rintro e w20 ⟨rfl,hb⟩;refine ⟨_,rfl, ?_⟩;have n0_:=Aside0.mk (blk_below (g:=gb251) (o := .cells #[.bool false, .int .u32 a0_1, .bool a0_2, .int .i64 a0_3, .slice A0_4 l0_4.length c0_4] 45 (0,0)) (by (with_reducible repeat (first | refine blk_drewN ?_ _ | refine blk_drew ?_ | refine blk_alloc ?_ _));exact BK251.out) hb);have n1_:=Aside0.mk (below_step (by repeat (first | (with_reducible first | exact HB.out | apply below_alloc | apply pw_below_drewN | apply below_drew1 | refine below_set ?_ GE251.out) | exact HB.out)) hb);clear BK251;clear HB;have BK251:=n0_;have HB:=n1_;clear n0_ n1_;(try clear hb);(try clear hb2);(try clear hk);(try clear hi);obtain ⟨hcz21_0,hcz21_1,hcz21_2,hcz21_3,hcz21_4⟩:=bc5 BK251.out;obtain ⟨hfz21_0,hfz21_1,hfz21_2,hfz21_3,hfz21_4⟩:=bf5 BK251.out))
     go_ret
     exact ⟨by first | rfl | (simp [errW_none,errW_some] <;> rfl) | (simp [*,errW_none,errW_some] <;> rfl),by repeat (first | (with_reducible first | exact HB.out | apply below_alloc | apply pw_below_drewN | apply below_drew1 | refine below_set ?_ GE251.out) | exact HB.out)⟩
    ·rw [if_neg c15] at H
     exact absurd H (by simp)
   ·rw [if_neg c14] at H
    exact absurd H (by simp)
 ·replace c3:=Bool.eq_false_iff.mpr c3
  subst c3
  have H1 : (some (⟨#[]⟩ : ByteArray)) = some r:=by rw [if_neg (show ¬ (false = true) by decide)] at H;exact H
  clear H
  have H:=H1
  clear H1
  obtain rfl:=Option.some.inj H
  go_enter Try.func26,Try.ntmps26
  go_wp2_with (first | ((with_reducible refine gate_dst (N:=1) rfl ?_);refine box_event ?hg (N:=1) ?hd (cs := #[.bool a0_0, .int .u32 a0_1, .bool a0_2, .int .i64 a0_3, .slice A0_4 l0_4.length c0_4]) (t:=45) ?hr ?_;(case hd => rfl);(case hg => rfl);(case hr => first | (go_simp;done) | (go_simp;rfl));intro gb251 hg w22 hbox hb;have n0_:=Aside0.mk (below_step (by repeat (first | (with_reducible first | exact HB.out | apply below_alloc | apply pw_below_drewN | apply below_drew1) | exact HB.out)) hb);have n1_:=Aside0.mk (hbox);have n2_:=Aside0.mk ((by rw [hg];exact (below_size (by repeat (first | (with_reducible first | exact HB.out | apply below_alloc | apply pw_below_drewN | apply below_drew1) | exact HB.out))) : w.heap.size ≤ gb251));have n3_:=Aside0.mk ((by rw [hg];exact (below_size (by repeat (first | (with_reducible first | exact HB.out | apply below_alloc | apply pw_below_drewN | apply below_drew1) | exact HB.out))) : w.heap.size ≤ gb251));clear HB;have HB:=n0_;have BK251:=n1_;have GW251:=n2_;have GE251:=n3_;clear n0_ n1_ n2_ n3_;clear hb hbox hg;obtain ⟨hcz23_0,hcz23_1,hcz23_2,hcz23_3,hcz23_4⟩:=bc5 BK251.out;obtain ⟨hfz23_0,hfz23_1,hfz23_2,hfz23_3,hfz23_4⟩:=bf5 BK251.out) | ((with_reducible refine gate_callee (f:=75) rfl ?_);refine goesL_ (some 5) rfl rfl Try.func75 (by kernel_rfl) rfl #[.agg #[.bool a0_0, .int .u32 a0_1, .bool a0_2, .int .i64 a0_3, .slice A0_4 l0_4.length c0_4]] rfl (by (try simp only [List.map_toArray,List.map_cons,List.map_nil]);first | done | rfl | (simp only [List.length_drop,List.length_take];rfl)) ?_;(with_reducible refine (spec_ValidFrame.calls k a0_0 a0_1 a0_2 a0_3 _ _ l0_4 false _ ?side1 ?side2 A2.out).mono ?_);(case side1 => repeat (first | exact (Kd.C_below HR0_4.out HB.out) | (with_reducible refine Kd.C_alloc ?_ _) | (with_reducible refine Kd.C_drewN ?_ _) | (with_reducible refine Kd.C_drew ?_)));(case side2 => exact HC0_4.out);rintro e w24 ⟨rfl,hb⟩;refine ⟨_,rfl, ?_⟩;have n0_:=Aside0.mk (blk_below (g:=gb251) (o := .cells #[.bool a0_0, .int .u32 a0_1, .bool a0_2, .int .i64 a0_3, .slice A0_4 l0_4.length c0_4] 45 (0,0)) (by (with_reducible repeat (first | refine blk_drewN ?_ _ | refine blk_drew ?_ | refine blk_alloc ?_ _));exact BK251.out) hb);have n1_:=Aside0.mk (below_step (by repeat (first | (with_reducible first | exact HB.out | apply below_alloc | apply pw_below_drewN | apply below_drew1 | refine below_set ?_ GE251.out) | exact HB.out)) hb);clear BK251;clear HB;have BK251:=n0_;have HB:=n1_;clear n0_ n1_;(try clear hb);(try clear hb2);(try clear hk);(try clear hi)))
  go_ret
  exact ⟨by first | rfl | (simp [errW_none,errW_some] <;> rfl) | (simp [*,errW_none,errW_some] <;> rfl),by repeat (first | (with_reducible first | exact HB.out | apply below_alloc | apply pw_below_drewN | apply below_drew1 | refine below_set ?_ GE251.out) | exact HB.out)⟩
def impl_ValidFrame.f (a0_0 : Bool) (a0_1 : Int) (a0_2 : Bool) (a0_3 : Int) (l0_4 : List Int) : Option (Bool):=some (validF a0_0 a0_1 a0_2 a0_3 l0_4.length)
set_option maxHeartbeats 2000000 in
theorem impl_ValidFrame.any (a0_0 : Bool) (a0_1 : Int) (a0_2 : Bool) (a0_3 : Int) (A0_4 : Option Addr) (c0_4 n : Nat) (w : World) (hn : n ≤ 9223372036854775807) :
  Calls Try.prog 119 #[.agg #[.bool a0_0, .int .u32 a0_1, .bool a0_2, .int .i64 a0_3, .slice A0_4 n c0_4]] w fun e w' => e = .returned (.bool (validF a0_0 a0_1 a0_2 a0_3 n)) ∧ Below w.heap.size w w':=by
 obtain ⟨b1,h1⟩ : ∃ b,decide (a0_1 < vtop a0_0) = b:=⟨_,rfl⟩
 obtain ⟨b2,h2⟩ : ∃ b,decide (0 ≤ a0_3) = b:=⟨_,rfl⟩
 obtain ⟨b3,h3⟩ : ∃ b,decide (a0_3 ≤ 15) = b:=⟨_,rfl⟩
 obtain ⟨b4,h4⟩ : ∃ b,((n : Int) == dataB a0_2 a0_3) = b:=⟨_,rfl⟩
 obtain ⟨r,hr⟩ : ∃ r,validF a0_0 a0_1 a0_2 a0_3 n = r:=⟨_,rfl⟩
 have HR : Hid ((b1 && (b2 && (b3 && b4))) = r):=by
  refine Lib.hid ?_
  rw [← hr, ← h1, ← h2, ← h3, ← h4];rfl
 rw [hr]
 clear hr
 have e0 : vtop false = 2048:=rfl
 have e1 : vtop true = 536870912:=rfl
 cases a0_0
 all_goals (first | rw [e0] at h1 | rw [e1] at h1);clear e0 e1
 all_goals cases b1
 any_goals cases b2
 any_goals cases b3
 all_goals
  go_enter Try.func119,Try.ntmps119
  go_wp2
  go_quiet ((go_at_call 144;exact Calls.quiet_of_same (impl_dataBytes.same _ _ _)))
  go_wp2
  go_ret
  exact ⟨by rw [← HR.out];rfl,((Below.refl _ _).alloc (Nat.le_refl _) _).trans (pw_below_drewN (Below.refl _ _) _)⟩
theorem impl_ValidFrame.calls (a0_0 : Bool) (a0_1 : Int) (a0_2 : Bool) (a0_3 : Int) (A0_4 : Option Addr) (c0_4 : Nat) (l0_4 : List Int) (r : Bool) (w : World) (hr0_4 : Kd.C (Kd.int .u8) w A0_4 l0_4.length l0_4) (hc0_4 : l0_4.length ≤ c0_4) (h : impl_ValidFrame.f a0_0 a0_1 a0_2 a0_3 l0_4 = some r) :
  Calls Try.prog 119 #[.agg #[.bool a0_0, .int .u32 a0_1, .bool a0_2, .int .i64 a0_3, .slice A0_4 l0_4.length c0_4]] w fun e w' => e = .returned (.bool r) ∧ Below w.heap.size w w':=by
 obtain rfl:=Option.some.inj h
 exact impl_ValidFrame.any a0_0 a0_1 a0_2 a0_3 A0_4 c0_4 l0_4.length w hr0_4.2.1
set_option maxHeartbeats 1000000 in
theorem impl_letters_number.calls (p : Nat) (v : Value) (xs : List Int) (u n B : Nat) (w : World) (hp : w.heap[p]? = some (.cells #[v] 163 (0,0))) (hv : RowM 5 w B v xs) (hB : B ≤ w.heap.size) (hu : u < 4294967296) (hn : n ≤ 32) (hx : xs.length ≤ 10000) :
  Calls Try.prog 149 #[.pointer (some ⟨p,0,none⟩), .int .u32 (u : Int), .int .i64 (n : Int)] w fun e w' => e = .returned (.tuple #[]) ∧ ∃ v',w'.heap[p]? = some (.cells #[v'] 163 (0,0)) ∧ RowM 5 w' B v' (xs ++ numL u n) ∧ Fr w w' p v.ownBlock v'.ownBlock:=by
 have HV:=Lib.hid hv
 have HP:=Lib.hid hp
 have HB:=Lib.hid hB
 have HX:=Lib.hid hx
 clear hv hp hB hx
 go_enter Try.func149,Try.ntmps149
 go_wp2
 go_loopw [6] (fun v6 wr => ∃ (m : Nat) (out : List Int) (v1 : Value),m ≤ n ∧ v6 = .int .i64 ((m : Int) - 1) ∧ Aside0 (out ++ numL u m = xs ++ numL u n ∧ out.length + m = xs.length + n) ∧ Aside0 (wr.heap[p]? = some (.cells #[v1] 163 (0,0))) ∧ Aside0 (RowM 5 wr B v1 out) ∧ Aside0 (Fr w wr p v.ownBlock v1.ownBlock)) (fun v6 _ => (intOf v6 + 1).toNat)
 case atStart => exact ⟨n,xs,v,Nat.le_refl _,rfl,⟨rfl,rfl⟩,⟨HP.out⟩,⟨HV.out⟩,⟨Fr.refl _ _ _⟩⟩
 case round =>
  obtain ⟨m,out,v1,hm,rfl,HL,HP1,HV1,HF⟩:=hrel
  cases m with
  | zero =>
   go_wp2
   go_end0
   have h1:=HL.out.1
   rw [numL,List.append_nil] at h1
   exact ⟨rfl,v1,HP1.out,h1 ▸ HV1.out,HF.out⟩
  | succ m =>
   have hcell:=cell_block HP1.out
   have HBIT : Hid ((48 + Go.bits .and .u32 ((u : Int) / 2 ^ m) 1) % 256 = 48 + ((u / 2 ^ m % 2 : Nat) : Int)):=by
    refine Lib.hid ?_
    have e1 : (u : Int) / 2 ^ m = ((u / 2 ^ m : Nat) : Int):=by push_cast;rfl
    have hlt : u / 2 ^ m < 4294967296:=Nat.lt_of_le_of_lt (Nat.div_le_self _ _) hu
    have h2:=u32_and_nat (u / 2 ^ m) 1 hlt (by decide)
    rw [show ((1 : Nat) : Int) = 1 from rfl] at h2
    rw [e1,h2,Nat.and_one_is_mod]
    omega
   have HPL : Hid (p < wr.heap.size):=Lib.hid (Array.getElem?_eq_some_iff.1 HP1.out).1
   have HPN : Hid (some p ≠ v1.ownBlock):=Lib.hid (fun e1 => by
    obtain ⟨_,_,cur,fz,hc⟩:=HV1.out.typed e1.symm
    rw [HP1.out] at hc
    injection hc with hc
    injection hc with _ hc
    exact absurd hc (by decide))
   go_wp2_with (at_builtin;refine RowM.append B rfl (.tmp 16) (.tmp 24) 163 5 rfl Try.underlying163 infoU8 v1 out ((48 + Go.bits .and .u32 ((u : Int) / 2 ^ m) 1) % 256) rfl rfl HV1.out ?aS ?aL ?_;(case aS => exact Nat.le_trans HB.out HF.out.size);(case aL => have:=HL.out.2;have:=HX.out;omega);intro v2 w2 hv2 hf2;rw [HBIT.out] at hv2;obtain ⟨A2,n2,c2,ev2⟩:=hv2.slice;subst ev2;have HV2:=Lib.hid hv2;have HF2:=Lib.hid hf2;have HP2:=Lib.hid ((hf2.block p HPL.out (Nat.ne_of_lt HPL.out) HPN.out).trans HP1.out);clear hv2 hf2;have hcell2:=cell_block HP2.out;have hfr2:=frozen_block HP2.out 0)
   go_roundw
   case rel =>
    refine ⟨m,out ++ [48 + ((u / 2 ^ m % 2 : Nat) : Int)],_,by omega,by go_num,⟨?_, ?_⟩,⟨set_block HP2.out⟩,⟨HV2.out.move (fun k hk => ?_)⟩,⟨HF.out.trans (HF2.out.store HPL.out)⟩⟩
    ·rw [← HL.out.1,numL,List.append_assoc];rfl
    ·have:=HL.out.2;rw [List.length_append];simp;omega
    ·refine Below.heap_setCell _ _ _ k (fun e1 => ?_)
     obtain ⟨_,_,cur,fz,hc⟩:=HV2.out.typed hk
     rw [show k = p from e1,HP2.out] at hc
     injection hc with hc
     injection hc with _ hc
     exact absurd hc (by decide)
   case measure => first | (simp [intOf];done) | (simp [intOf];omega)
theorem impl_letters_number.at (x y : Int) (p : Nat) (v : Value) (xs : List Int) (u n B : Nat) (w : World) (hp : w.heap[p]? = some (.cells #[v] 163 (0,0))) (hv : RowM 5 w B v xs) (hB : B ≤ w.heap.size) (hx : x = (u : Int)) (hu : u < 4294967296) (hy : y = (n : Int)) (hn : n ≤ 32) (hl : xs.length ≤ 10000) :
  Calls Try.prog 149 #[.pointer (some ⟨p,0,none⟩), .int .u32 x, .int .i64 y] w fun e w' => e = .returned (.tuple #[]) ∧ ∃ v',w'.heap[p]? = some (.cells #[v'] 163 (0,0)) ∧ RowM 5 w' B v' (xs ++ numL u n) ∧ Fr w w' p v.ownBlock v'.ownBlock:=by
 subst hx hy
 exact impl_letters_number.calls p v xs u n B w hp hv hB hu hn hl
theorem impl_letters_flag.calls (p : Nat) (v : Value) (xs : List Int) (b : Bool) (B : Nat) (w : World) (hp : w.heap[p]? = some (.cells #[v] 163 (0,0))) (hv : RowM 5 w B v xs) (hB : B ≤ w.heap.size) (hl : xs.length ≤ 10000) :
  Calls Try.prog 150 #[.pointer (some ⟨p,0,none⟩), .bool b] w fun e w' => e = .returned (.tuple #[]) ∧ ∃ v',w'.heap[p]? = some (.cells #[v'] 163 (0,0)) ∧ RowM 5 w' B v' (xs ++ [48 + b2 b]) ∧ Fr w w' p v.ownBlock v'.ownBlock:=by
 have H0:=Lib.hid (impl_letters_number.at 0 1 p v xs 0 1 B w hp hv hB rfl (by omega) rfl (by omega) hl)
 have H1:=Lib.hid (impl_letters_number.at 1 1 p v xs 1 1 B w hp hv hB rfl (by omega) rfl (by omega) hl)
 clear hp hv hB hl
 cases b
 ·go_enter Try.func150,Try.ntmps150
  go_wp2_with (go_at_call 149;refine H0.out.mono ?_;rintro e w' ⟨rfl,v',h1,h2,h3⟩;have R1:=Lib.hid h1;have R2:=Lib.hid h2;have R3:=Lib.hid h3;clear h1 h2 h3)
  go_end0
  exact ⟨rfl,v',R1.out,R2.out,R3.out⟩
 ·go_enter Try.func150,Try.ntmps150
  go_wp2_with (go_at_call 149;refine H1.out.mono ?_;rintro e w' ⟨rfl,v',h1,h2,h3⟩;have R1:=Lib.hid h1;have R2:=Lib.hid h2;have R3:=Lib.hid h3;clear h1 h2 h3)
  go_end0
  exact ⟨rfl,v',R1.out,R2.out,R3.out⟩
def impl_Body.f (a0_0 : Bool) (a0_1 : Int) (a0_2 : Bool) (a0_3 : Int) (l0_4 : List Int) : Option (ByteArray):=if 0 ≤ a0_1 ∧ okBytes l0_4 = true then some (bodyV a0_0 a0_1 a0_2 a0_3 l0_4) else none
set_option maxHeartbeats 4000000 in
theorem impl_Body.yes (ext : Bool) (id : Int) (rtr : Bool) (dlc : Int) (A : Option Addr) (c : Nat) (l : List Int) (w : World) (hr : Kd.C (Kd.int .u8) w A l.length l) (hc : l.length ≤ c) (h0 : 0 ≤ id) (hb : okBytes l = true) (hv : validF ext id rtr dlc l.length = true) :
  Calls Try.prog 145 #[.agg #[.bool ext, .int .u32 id, .bool rtr, .int .i64 dlc, .slice A l.length c]] w fun e w' => e = .returned (.string (strOfNums (bodyL ext id rtr dlc l))) ∧ Below w.heap.size w w':=by
 obtain ⟨hid,hd0,hd1, -,hn8⟩:=valid_parts hv
 have HV : Hid (impl_ValidFrame.f ext id rtr dlc l = some true):=Lib.hid (by unfold impl_ValidFrame.f;rw [hv])
 have HR:=Lib.hid hr
 have HC:=Lib.hid hc
 have HOB:=Lib.hid hb
 have hid2 : id < 536870912:=by unfold vtop at hid;split at hid <;> omega
 have HID : Hid (ext = false → id < 2048):=Lib.hid (fun e => by rw [e] at hid;exact hid)
 have HU : Hid (id = (id.toNat : Int)):=Lib.hid (by omega)
 have HD : Hid (dlc = (dlc.toNat : Int)):=Lib.hid (by omega)
 have HU2 : Hid (id / 262144 = ((id.toNat / 262144 : Nat) : Int)):=Lib.hid (by omega)
 have HL : Hid (l.length ≤ 8):=Lib.hid hn8
 have hm8 : l.length ≤ 9223372036854775807:=by omega
 clear hv hr hc hb hid hn8
 cases ext
 ·go_enter Try.func145,Try.ntmps145
  go_wp2_with (fail)
  (refine (impl_ValidFrame.calls false id rtr dlc A c l true _ (Kd.C_below HR.out ((Below.refl _ _).alloc (Nat.le_refl _) _)) HC.out HV.out).mono ?_;rintro e w1 ⟨rfl,hb1⟩;have HB1:=Lib.hid hb1;clear hb1;have HBW : Hid (BW 5 163 w (w1.alloc (.cells #[.slice none 0 0] 163)) w.heap.size w1.heap.size #[.bool false, .int .u32 id, .bool rtr, .int .i64 dlc, .slice A l.length c] 45 (.slice none 0 0) []):=Lib.hid ⟨blk_alloc (blk_below (blk_new w _) HB1.out) _,blk_new _ _,RowM.nil _ _ _,((Below.refl _ _).alloc (Nat.le_refl _) _).trans ⟨HB1.out.os,HB1.out.tape,HB1.out.output,HB1.out.size,fun k hk => HB1.out.block k (by simp;omega)⟩ |>.alloc (by have:=HB1.out.size;simp at this;omega) _,Nat.le_refl _,by have:=HB1.out.size;simp at this;omega,by have:=HB1.out.size;simp at this;omega⟩;have hc0:=blk_cell HBW.out.box 0;have hc1:=blk_cell HBW.out.box 1;have hc2:=blk_cell HBW.out.box 2;have hc3:=blk_cell HBW.out.box 3;have hc4:=blk_cell HBW.out.box 4;simp only [box5_0,box5_1,box5_2,box5_3,box5_4] at hc0 hc1 hc2 hc3 hc4)
  go_wp2_with (fail)
  ((with_reducible refine (impl_letters_number.at 0 1 _ _ _ 0 1 w.heap.size _ HBW.out.ptr HBW.out.row HBW.out.below.size rfl ?hu rfl (by omega) ?hl).mono ?_);(case hu => omega);(case hl => simp [numL_length,flagL]);rintro e w' ⟨rfl,v',hq1,hq2,hq3⟩;have HN:=Lib.hid (HBW.out.step (by decide) hq1 hq2 hq3);clear hq1 hq2 hq3 hc0 hc1 hc2 hc3 hc4 HBW;have HBW:=HN;clear HN;have hc0:=blk_cell HBW.out.box 0;have hc1:=blk_cell HBW.out.box 1;have hc2:=blk_cell HBW.out.box 2;have hc3:=blk_cell HBW.out.box 3;have hc4:=blk_cell HBW.out.box 4;simp only [box5_0,box5_1,box5_2,box5_3,box5_4] at hc0 hc1 hc2 hc3 hc4)
  go_wp2_with (fail)
  ((with_reducible refine (impl_letters_number.at id 11 _ _ _ id.toNat 11 w.heap.size _ HBW.out.ptr HBW.out.row HBW.out.below.size HU.out ?hu rfl (by omega) ?hl).mono ?_);(case hu => omega);(case hl => simp [numL_length,flagL]);rintro e w' ⟨rfl,v',hq1,hq2,hq3⟩;have HN:=Lib.hid (HBW.out.step (by decide) hq1 hq2 hq3);clear hq1 hq2 hq3 hc0 hc1 hc2 hc3 hc4 HBW;have HBW:=HN;clear HN;have hc0:=blk_cell HBW.out.box 0;have hc1:=blk_cell HBW.out.box 1;have hc2:=blk_cell HBW.out.box 2;have hc3:=blk_cell HBW.out.box 3;have hc4:=blk_cell HBW.out.box 4;simp only [box5_0,box5_1,box5_2,box5_3,box5_4] at hc0 hc1 hc2 hc3 hc4)
  go_wp2_with (fail)
  ((with_reducible refine (impl_letters_flag.calls _ _ _ rtr w.heap.size _ HBW.out.ptr HBW.out.row HBW.out.below.size ?hl).mono ?_);(case hl => simp [numL_length,flagL]);rintro e w' ⟨rfl,v',hq1,hq2,hq3⟩;have HN:=Lib.hid (HBW.out.step (by decide) hq1 hq2 hq3);clear hq1 hq2 hq3 hc0 hc1 hc2 hc3 hc4 HBW;have HBW:=HN;clear HN;have hc0:=blk_cell HBW.out.box 0;have hc1:=blk_cell HBW.out.box 1;have hc2:=blk_cell HBW.out.box 2;have hc3:=blk_cell HBW.out.box 3;have hc4:=blk_cell HBW.out.box 4;simp only [box5_0,box5_1,box5_2,box5_3,box5_4] at hc0 hc1 hc2 hc3 hc4)
  go_wp2_with (fail)
  ((with_reducible refine (impl_letters_number.at 0 2 _ _ _ 0 2 w.heap.size _ HBW.out.ptr HBW.out.row HBW.out.below.size rfl ?hu rfl (by omega) ?hl).mono ?_);(case hu => omega);(case hl => simp [numL_length,flagL]);rintro e w' ⟨rfl,v',hq1,hq2,hq3⟩;have HN:=Lib.hid (HBW.out.step (by decide) hq1 hq2 hq3);clear hq1 hq2 hq3 hc0 hc1 hc2 hc3 hc4 HBW;have HBW:=HN;clear HN;have hc0:=blk_cell HBW.out.box 0;have hc1:=blk_cell HBW.out.box 1;have hc2:=blk_cell HBW.out.box 2;have hc3:=blk_cell HBW.out.box 3;have hc4:=blk_cell HBW.out.box 4;simp only [box5_0,box5_1,box5_2,box5_3,box5_4] at hc0 hc1 hc2 hc3 hc4)
  go_wp2_with (fail)
  ((with_reducible refine (impl_letters_number.at dlc 4 _ _ _ dlc.toNat 4 w.heap.size _ HBW.out.ptr HBW.out.row HBW.out.below.size HD.out ?hu rfl (by omega) ?hl).mono ?_);(case hu => omega);(case hl => simp [numL_length,flagL]);rintro e w' ⟨rfl,v',hq1,hq2,hq3⟩;have HN:=Lib.hid (HBW.out.step (by decide) hq1 hq2 hq3);clear hq1 hq2 hq3 hc0 hc1 hc2 hc3 hc4 HBW;have HBW:=HN;clear HN;have hc0:=blk_cell HBW.out.box 0;have hc1:=blk_cell HBW.out.box 1;have hc2:=blk_cell HBW.out.box 2;have hc3:=blk_cell HBW.out.box 3;have hc4:=blk_cell HBW.out.box 4;simp only [box5_0,box5_1,box5_2,box5_3,box5_4] at hc0 hc1 hc2 hc3 hc4)
  go_wp2_with (fail)
  have HBW' : Hid (BW 5 163 w _ w.heap.size w1.heap.size _ 45 _ (headL false id rtr ++ numL dlc.toNat 4 ++ dataL (l.take 0))):=Lib.hid (by have h:=HBW.out;simpa [headL,dataL,flagL] using h)
  clear hc0 hc1 hc2 hc3 hc4 HBW
  go_loopw [38] (fun v38 wr => ∃ (i : Nat) (v : Value),i ≤ l.length ∧ Aside0 (BW 5 163 w wr w.heap.size w1.heap.size #[.bool false, .int .u32 id, .bool rtr, .int .i64 dlc, .slice A l.length c] 45 v (headL false id rtr ++ numL dlc.toNat 4 ++ dataL (l.take i))) ∧ v38 = .int .i64 i) (fun v38 _ => l.length - (intOf v38).toNat)
  case atStart => exact ⟨0,_,Nat.zero_le _,⟨HBW'.out⟩,rfl⟩
  case round =>
   obtain ⟨i,v,hi,HBW,rfl⟩:=hrel
   have hptr:=blk_cell HBW.out.ptr 0
   simp only [box1_0] at hptr
   by_cases hlt : i < l.length
   ·obtain ⟨ad,ea,hcell⟩:=Kd.at_int (Kd.C_below HR.out HBW.out.below) (i : Int) (by omega) (by omega)
    subst ea
    have HBY:=Lib.hid (okBytes_at HOB.out i hlt)
    have HX : Hid (rd l (i : Int) = ((rd l (i : Int)).toNat : Int)):=Lib.hid (by have:=HBY.out;omega)
    rw [HX.out,Int.toNat_natCast] at hcell
    generalize hxx : (rd l (i : Int)).toNat = x at hcell
    have HXX : Hid (x = (rd l (i : Int)).toNat ∧ x < 256):=Lib.hid ⟨hxx.symm,by have:=HBY.out;omega⟩
    have hx256 : x < 256:=HXX.out.2
    clear hxx
    go_wp2_with (fail)
    ((with_reducible refine (impl_letters_number.at (x : Int) 8 _ _ _ x 8 w.heap.size _ HBW.out.ptr HBW.out.row HBW.out.below.size rfl ?hu rfl (by omega) ?hl).mono ?_);(case hu => omega);(case hl => have h1:=headL_length false id rtr;have h2:=dataL_length (l.take i);have h3:=HL.out;simp [numL_length] at h1 h2 ⊢;omega);rintro e w' ⟨rfl,v',hq1,hq2,hq3⟩;have HN:=Lib.hid (HBW.out.step (by decide) hq1 hq2 hq3);clear hq1 hq2 hq3)
    go_wp2_with (fail)
    go_roundw
    case rel => exact ⟨i + 1,_,hlt,⟨by have h:=HN.out;rw [HXX.out.1] at h;rw [take_next l i hlt,dataL_snoc];simpa [List.append_assoc] using h⟩,by go_num⟩
    case measure => simp [intOf];omega
   ·obtain rfl : i = l.length:=by omega
    have hcv:=RowM.string (P:=Try.prog) Try.underlying163 Try.underlying5 Try.underlying9 HBW.out.row
    go_wp2
    go_ret
    exact ⟨by rw [bodyL,List.append_assoc];rfl,HBW.out.below⟩
 ·go_enter Try.func145,Try.ntmps145
  go_wp2_with (fail)
  (refine (impl_ValidFrame.calls true id rtr dlc A c l true _ (Kd.C_below HR.out ((Below.refl _ _).alloc (Nat.le_refl _) _)) HC.out HV.out).mono ?_;rintro e w1 ⟨rfl,hb1⟩;have HB1:=Lib.hid hb1;clear hb1;have HBW : Hid (BW 5 163 w (w1.alloc (.cells #[.slice none 0 0] 163)) w.heap.size w1.heap.size #[.bool true, .int .u32 id, .bool rtr, .int .i64 dlc, .slice A l.length c] 45 (.slice none 0 0) []):=Lib.hid ⟨blk_alloc (blk_below (blk_new w _) HB1.out) _,blk_new _ _,RowM.nil _ _ _,((Below.refl _ _).alloc (Nat.le_refl _) _).trans ⟨HB1.out.os,HB1.out.tape,HB1.out.output,HB1.out.size,fun k hk => HB1.out.block k (by simp;omega)⟩ |>.alloc (by have:=HB1.out.size;simp at this;omega) _,Nat.le_refl _,by have:=HB1.out.size;simp at this;omega,by have:=HB1.out.size;simp at this;omega⟩;have hc0:=blk_cell HBW.out.box 0;have hc1:=blk_cell HBW.out.box 1;have hc2:=blk_cell HBW.out.box 2;have hc3:=blk_cell HBW.out.box 3;have hc4:=blk_cell HBW.out.box 4;simp only [box5_0,box5_1,box5_2,box5_3,box5_4] at hc0 hc1 hc2 hc3 hc4)
  go_wp2_with (fail)
  ((with_reducible refine (impl_letters_number.at 0 1 _ _ _ 0 1 w.heap.size _ HBW.out.ptr HBW.out.row HBW.out.below.size rfl ?hu rfl (by omega) ?hl).mono ?_);(case hu => omega);(case hl => simp [numL_length,flagL]);rintro e w' ⟨rfl,v',hq1,hq2,hq3⟩;have HN:=Lib.hid (HBW.out.step (by decide) hq1 hq2 hq3);clear hq1 hq2 hq3 hc0 hc1 hc2 hc3 hc4 HBW;have HBW:=HN;clear HN;have hc0:=blk_cell HBW.out.box 0;have hc1:=blk_cell HBW.out.box 1;have hc2:=blk_cell HBW.out.box 2;have hc3:=blk_cell HBW.out.box 3;have hc4:=blk_cell HBW.out.box 4;simp only [box5_0,box5_1,box5_2,box5_3,box5_4] at hc0 hc1 hc2 hc3 hc4)
  go_wp2_with (fail)
  ((with_reducible refine (impl_letters_number.at (id / 262144) 11 _ _ _ (id.toNat / 262144) 11 w.heap.size _ HBW.out.ptr HBW.out.row HBW.out.below.size HU2.out ?hu rfl (by omega) ?hl).mono ?_);(case hu => omega);(case hl => simp [numL_length,flagL]);rintro e w' ⟨rfl,v',hq1,hq2,hq3⟩;have HN:=Lib.hid (HBW.out.step (by decide) hq1 hq2 hq3);clear hq1 hq2 hq3 hc0 hc1 hc2 hc3 hc4 HBW;have HBW:=HN;clear HN;have hc0:=blk_cell HBW.out.box 0;have hc1:=blk_cell HBW.out.box 1;have hc2:=blk_cell HBW.out.box 2;have hc3:=blk_cell HBW.out.box 3;have hc4:=blk_cell HBW.out.box 4;simp only [box5_0,box5_1,box5_2,box5_3,box5_4] at hc0 hc1 hc2 hc3 hc4)
  go_wp2_with (fail)
  ((with_reducible refine (impl_letters_number.at 3 2 _ _ _ 3 2 w.heap.size _ HBW.out.ptr HBW.out.row HBW.out.below.size rfl ?hu rfl (by omega) ?hl).mono ?_);(case hu => omega);(case hl => simp [numL_length,flagL]);rintro e w' ⟨rfl,v',hq1,hq2,hq3⟩;have HN:=Lib.hid (HBW.out.step (by decide) hq1 hq2 hq3);clear hq1 hq2 hq3 hc0 hc1 hc2 hc3 hc4 HBW;have HBW:=HN;clear HN;have hc0:=blk_cell HBW.out.box 0;have hc1:=blk_cell HBW.out.box 1;have hc2:=blk_cell HBW.out.box 2;have hc3:=blk_cell HBW.out.box 3;have hc4:=blk_cell HBW.out.box 4;simp only [box5_0,box5_1,box5_2,box5_3,box5_4] at hc0 hc1 hc2 hc3 hc4)
  go_wp2_with (fail)
  ((with_reducible refine (impl_letters_number.at id 18 _ _ _ id.toNat 18 w.heap.size _ HBW.out.ptr HBW.out.row HBW.out.below.size HU.out ?hu rfl (by omega) ?hl).mono ?_);(case hu => omega);(case hl => simp [numL_length,flagL]);rintro e w' ⟨rfl,v',hq1,hq2,hq3⟩;have HN:=Lib.hid (HBW.out.step (by decide) hq1 hq2 hq3);clear hq1 hq2 hq3 hc0 hc1 hc2 hc3 hc4 HBW;have HBW:=HN;clear HN;have hc0:=blk_cell HBW.out.box 0;have hc1:=blk_cell HBW.out.box 1;have hc2:=blk_cell HBW.out.box 2;have hc3:=blk_cell HBW.out.box 3;have hc4:=blk_cell HBW.out.box 4;simp only [box5_0,box5_1,box5_2,box5_3,box5_4] at hc0 hc1 hc2 hc3 hc4)
  go_wp2_with (fail)
  ((with_reducible refine (impl_letters_flag.calls _ _ _ rtr w.heap.size _ HBW.out.ptr HBW.out.row HBW.out.below.size ?hl).mono ?_);(case hl => simp [numL_length,flagL]);rintro e w' ⟨rfl,v',hq1,hq2,hq3⟩;have HN:=Lib.hid (HBW.out.step (by decide) hq1 hq2 hq3);clear hq1 hq2 hq3 hc0 hc1 hc2 hc3 hc4 HBW;have HBW:=HN;clear HN;have hc0:=blk_cell HBW.out.box 0;have hc1:=blk_cell HBW.out.box 1;have hc2:=blk_cell HBW.out.box 2;have hc3:=blk_cell HBW.out.box 3;have hc4:=blk_cell HBW.out.box 4;simp only [box5_0,box5_1,box5_2,box5_3,box5_4] at hc0 hc1 hc2 hc3 hc4)
  go_wp2_with (fail)
  ((with_reducible refine (impl_letters_number.at 0 2 _ _ _ 0 2 w.heap.size _ HBW.out.ptr HBW.out.row HBW.out.below.size rfl ?hu rfl (by omega) ?hl).mono ?_);(case hu => omega);(case hl => simp [numL_length,flagL]);rintro e w' ⟨rfl,v',hq1,hq2,hq3⟩;have HN:=Lib.hid (HBW.out.step (by decide) hq1 hq2 hq3);clear hq1 hq2 hq3 hc0 hc1 hc2 hc3 hc4 HBW;have HBW:=HN;clear HN;have hc0:=blk_cell HBW.out.box 0;have hc1:=blk_cell HBW.out.box 1;have hc2:=blk_cell HBW.out.box 2;have hc3:=blk_cell HBW.out.box 3;have hc4:=blk_cell HBW.out.box 4;simp only [box5_0,box5_1,box5_2,box5_3,box5_4] at hc0 hc1 hc2 hc3 hc4)
  go_wp2_with (fail)
  ((with_reducible refine (impl_letters_number.at dlc 4 _ _ _ dlc.toNat 4 w.heap.size _ HBW.out.ptr HBW.out.row HBW.out.below.size HD.out ?hu rfl (by omega) ?hl).mono ?_);(case hu => omega);(case hl => simp [numL_length,flagL]);rintro e w' ⟨rfl,v',hq1,hq2,hq3⟩;have HN:=Lib.hid (HBW.out.step (by decide) hq1 hq2 hq3);clear hq1 hq2 hq3 hc0 hc1 hc2 hc3 hc4 HBW;have HBW:=HN;clear HN;have hc0:=blk_cell HBW.out.box 0;have hc1:=blk_cell HBW.out.box 1;have hc2:=blk_cell HBW.out.box 2;have hc3:=blk_cell HBW.out.box 3;have hc4:=blk_cell HBW.out.box 4;simp only [box5_0,box5_1,box5_2,box5_3,box5_4] at hc0 hc1 hc2 hc3 hc4)
  go_wp2_with (fail)
  have HBW' : Hid (BW 5 163 w _ w.heap.size w1.heap.size _ 45 _ (headL true id rtr ++ numL dlc.toNat 4 ++ dataL (l.take 0))):=Lib.hid (by have h:=HBW.out;simpa [headL,dataL,flagL] using h)
  clear hc0 hc1 hc2 hc3 hc4 HBW
  go_loopw [38] (fun v38 wr => ∃ (i : Nat) (v : Value),i ≤ l.length ∧ Aside0 (BW 5 163 w wr w.heap.size w1.heap.size #[.bool true, .int .u32 id, .bool rtr, .int .i64 dlc, .slice A l.length c] 45 v (headL true id rtr ++ numL dlc.toNat 4 ++ dataL (l.take i))) ∧ v38 = .int .i64 i) (fun v38 _ => l.length - (intOf v38).toNat)
  case atStart => exact ⟨0,_,Nat.zero_le _,⟨HBW'.out⟩,rfl⟩
  case round =>
   obtain ⟨i,v,hi,HBW,rfl⟩:=hrel
   have hptr:=blk_cell HBW.out.ptr 0
   simp only [box1_0] at hptr
   by_cases hlt : i < l.length
   ·obtain ⟨ad,ea,hcell⟩:=Kd.at_int (Kd.C_below HR.out HBW.out.below) (i : Int) (by omega) (by omega)
    subst ea
    have HBY:=Lib.hid (okBytes_at HOB.out i hlt)
    have HX : Hid (rd l (i : Int) = ((rd l (i : Int)).toNat : Int)):=Lib.hid (by have:=HBY.out;omega)
    rw [HX.out,Int.toNat_natCast] at hcell
    generalize hxx : (rd l (i : Int)).toNat = x at hcell
    have HXX : Hid (x = (rd l (i : Int)).toNat ∧ x < 256):=Lib.hid ⟨hxx.symm,by have:=HBY.out;omega⟩
    have hx256 : x < 256:=HXX.out.2
    clear hxx
    go_wp2_with (fail)
    ((with_reducible refine (impl_letters_number.at (x : Int) 8 _ _ _ x 8 w.heap.size _ HBW.out.ptr HBW.out.row HBW.out.below.size rfl ?hu rfl (by omega) ?hl).mono ?_);(case hu => omega);(case hl => have h1:=headL_length true id rtr;have h2:=dataL_length (l.take i);have h3:=HL.out;simp [numL_length] at h1 h2 ⊢;omega);rintro e w' ⟨rfl,v',hq1,hq2,hq3⟩;have HN:=Lib.hid (HBW.out.step (by decide) hq1 hq2 hq3);clear hq1 hq2 hq3)
    go_wp2_with (fail)
    go_roundw
    case rel => exact ⟨i + 1,_,hlt,⟨by have h:=HN.out;rw [HXX.out.1] at h;rw [take_next l i hlt,dataL_snoc];simpa [List.append_assoc] using h⟩,by go_num⟩
    case measure => simp [intOf];omega
   ·obtain rfl : i = l.length:=by omega
    have hcv:=RowM.string (P:=Try.prog) Try.underlying163 Try.underlying5 Try.underlying9 HBW.out.row
    go_wp2
    go_ret
    exact ⟨by rw [bodyL,List.append_assoc];rfl,HBW.out.below⟩
theorem impl_Body.calls (a0_0 : Bool) (a0_1 : Int) (a0_2 : Bool) (a0_3 : Int) (A0_4 : Option Addr) (c0_4 : Nat) (l0_4 : List Int) (r : ByteArray) (w : World) (hr0_4 : Kd.C (Kd.int .u8) w A0_4 l0_4.length l0_4) (hc0_4 : l0_4.length ≤ c0_4) (h : impl_Body.f a0_0 a0_1 a0_2 a0_3 l0_4 = some r) :
  Calls Try.prog 145 #[.agg #[.bool a0_0, .int .u32 a0_1, .bool a0_2, .int .i64 a0_3, .slice A0_4 l0_4.length c0_4]] w fun e w' => e = .returned (.string r) ∧ Below w.heap.size w w':=by
 unfold impl_Body.f at h
 by_cases c : 0 ≤ a0_1 ∧ okBytes l0_4 = true
 ·rw [if_pos c] at h
  have hr:=(Option.some.inj h).symm
  unfold bodyV at hr
  cases hv : validF a0_0 a0_1 a0_2 a0_3 l0_4.length with
  | true =>
   rw [hv,if_pos rfl] at hr
   subst hr
   exact impl_Body.yes a0_0 a0_1 a0_2 a0_3 A0_4 c0_4 l0_4 w hr0_4 hc0_4 c.1 c.2 hv
  | false =>
   rw [hv,if_neg (by decide)] at hr
   subst hr
   have HV : Hid (impl_ValidFrame.f a0_0 a0_1 a0_2 a0_3 l0_4 = some false):=Lib.hid (by unfold impl_ValidFrame.f;rw [hv])
   have HR:=Lib.hid hr0_4
   have HC:=Lib.hid hc0_4
   clear hv h c hr0_4 hc0_4
   go_enter Try.func145,Try.ntmps145
   go_wp2_with (fail)
   (refine (impl_ValidFrame.calls a0_0 a0_1 a0_2 a0_3 A0_4 c0_4 l0_4 false _ (Kd.C_below HR.out ((Below.refl _ _).alloc (Nat.le_refl _) _)) HC.out HV.out).mono ?_;rintro e w1 ⟨rfl,hb1⟩;have HB1:=Lib.hid hb1;clear hb1)
   go_wp2
   go_ret
   exact ⟨rfl,((Below.refl _ _).alloc (Nat.le_refl _) _).trans ⟨HB1.out.os,HB1.out.tape,HB1.out.output,HB1.out.size,fun k hk => HB1.out.block k (by simp;omega)⟩⟩
 ·rw [if_neg c] at h;cases h
def impl_Arb.f (a0_0 : Bool) (a0_1 : Int) (a0_2 : Bool) (a0_3 : Int) (l0_4 : List Int) : Option (ByteArray):=(impl_Body.f a0_0 a0_1 a0_2 a0_3 l0_4).bind fun t255 => (if t255.toList = ([] : List UInt8) then (some (⟨#[]⟩ : ByteArray)) else (if a0_0 = true then (if 1 ≤ 33 then (if 33 ≤ (t255.size : Int) then (some (t255.extract 1 33)) else (none)) else (none)) else (if 1 ≤ 14 then (if 14 ≤ (t255.size : Int) then (some (t255.extract 1 14)) else (none)) else (none))))
set_option maxHeartbeats 8000000 in
set_option maxRecDepth 100000 in
theorem impl_Arb.calls (a0_0 : Bool) (a0_1 : Int) (a0_2 : Bool) (a0_3 : Int) (A0_4 : Option Addr) (c0_4 : Nat) (l0_4 : List Int) (r : ByteArray) (w : World) (hr0_4 : Kd.C (Kd.int .u8) w A0_4 l0_4.length l0_4) (hc0_4 : l0_4.length ≤ c0_4) (h : impl_Arb.f a0_0 a0_1 a0_2 a0_3 l0_4 = some r) :
  Calls Try.prog 122 #[.agg #[.bool a0_0, .int .u32 a0_1, .bool a0_2, .int .i64 a0_3, .slice A0_4 l0_4.length c0_4]] w fun e w' => e = .returned (.string r) ∧ Below w.heap.size w w':=by
 have hu45:=Try.underlying45
 have HR0_4:=Aside0.mk hr0_4
 have HC0_4:=Aside0.mk hc0_4
 clear hr0_4 hc0_4
 have HB:=Aside0.mk (Below.refl w.heap.size w)
 have H : ((impl_Body.f a0_0 a0_1 a0_2 a0_3 l0_4).bind fun t255 => (if t255.toList = ([] : List UInt8) then (some (⟨#[]⟩ : ByteArray)) else (if a0_0 = true then (if 1 ≤ 33 then (if 33 ≤ (t255.size : Int) then (some (t255.extract 1 33)) else (none)) else (none)) else (if 1 ≤ 14 then (if 14 ≤ (t255.size : Int) then (some (t255.extract 1 14)) else (none)) else (none))))) = some r:=h
 clear h
 replace H:=Option.bind_eq_some_iff.mp H
 obtain ⟨t255,A20,H⟩:=H
 replace H : (if t255.toList = ([] : List UInt8) then (some (⟨#[]⟩ : ByteArray)) else (if a0_0 = true then (if 1 ≤ 33 then (if 33 ≤ (t255.size : Int) then (some (t255.extract 1 33)) else (none)) else (none)) else (if 1 ≤ 14 then (if 14 ≤ (t255.size : Int) then (some (t255.extract 1 14)) else (none)) else (none)))) = some r:=H
 have A2:=Aside0.mk A20
 clear A20
 by_cases c3 : t255.toList = ([] : List UInt8)
 ·rw [if_pos c3] at H
  have c3b0 : (t255.toList == ([] : List UInt8)) = true:=beq_iff_eq.mpr c3
  have c3b1 : (t255.toList != ([] : List UInt8)) = false:=bne_eq_false_iff_eq.mpr c3
  clear c3
  obtain rfl:=Option.some.inj H
  go_enter Try.func122,Try.ntmps122
  go_wp2_with (first | ((with_reducible refine gate_dst (N:=1) rfl ?_);refine box_event ?hg (N:=1) ?hd (cs := #[.bool a0_0, .int .u32 a0_1, .bool a0_2, .int .i64 a0_3, .slice A0_4 l0_4.length c0_4]) (t:=45) ?hr ?_;(case hd => rfl);(case hg => rfl);(case hr => first | (go_simp;done) | (go_simp;rfl));intro gb254 hg w4 hbox hb;have n0_:=Aside0.mk (below_step (by repeat (first | (with_reducible first | exact HB.out | apply below_alloc | apply pw_below_drewN | apply below_drew1) | exact HB.out)) hb);have n1_:=Aside0.mk (hbox);have n2_:=Aside0.mk ((by rw [hg];exact (below_size (by repeat (first | (with_reducible first | exact HB.out | apply below_alloc | apply pw_below_drewN | apply below_drew1) | exact HB.out))) : w.heap.size ≤ gb254));have n3_:=Aside0.mk ((by rw [hg];exact (below_size (by repeat (first | (with_reducible first | exact HB.out | apply below_alloc | apply pw_below_drewN | apply below_drew1) | exact HB.out))) : w.heap.size ≤ gb254));clear HB;have HB:=n0_;have BK254:=n1_;have GW254:=n2_;have GE254:=n3_;clear n0_ n1_ n2_ n3_;clear hb hbox hg;obtain ⟨hcz5_0,hcz5_1,hcz5_2,hcz5_3,hcz5_4⟩:=bc5 BK254.out;obtain ⟨hfz5_0,hfz5_1,hfz5_2,hfz5_3,hfz5_4⟩:=bf5 BK254.out) | ((with_reducible refine gate_callee (f:=145) rfl ?_);refine goesL_ (some 5) rfl rfl Try.func145 (by kernel_rfl) rfl #[.agg #[.bool a0_0, .int .u32 a0_1, .bool a0_2, .int .i64 a0_3, .slice A0_4 l0_4.length c0_4]] rfl (by (try simp only [List.map_toArray,List.map_cons,List.map_nil]);first | done | rfl | (simp only [List.length_drop,List.length_take];rfl)) ?_;(with_reducible refine (impl_Body.calls a0_0 a0_1 a0_2 a0_3 _ _ l0_4 t255 _ ?side1 ?side2 A2.out).mono ?_);(case side1 => repeat (first | exact (Kd.C_below HR0_4.out HB.out) | (with_reducible refine Kd.C_alloc ?_ _) | (with_reducible refine Kd.C_drewN ?_ _) | (with_reducible refine Kd.C_drew ?_)));(case side2 => exact HC0_4.out);rintro e w6 ⟨rfl,hb⟩;refine ⟨_,rfl, ?_⟩;have n0_:=Aside0.mk (blk_below (g:=gb254) (o := .cells #[.bool a0_0, .int .u32 a0_1, .bool a0_2, .int .i64 a0_3, .slice A0_4 l0_4.length c0_4] 45 (0,0)) (by (with_reducible repeat (first | refine blk_drewN ?_ _ | refine blk_drew ?_ | refine blk_alloc ?_ _));exact BK254.out) hb);have n1_:=Aside0.mk (below_step (by repeat (first | (with_reducible first | exact HB.out | apply below_alloc | apply pw_below_drewN | apply below_drew1 | refine below_set ?_ GE254.out) | exact HB.out)) hb);clear BK254;clear HB;have BK254:=n0_;have HB:=n1_;clear n0_ n1_;(try clear hb);(try clear hb2);(try clear hk);(try clear hi)))
  go_ret
  exact ⟨by first | rfl | (simp [errW_none,errW_some] <;> rfl) | (simp [*,errW_none,errW_some] <;> rfl),by repeat (first | (with_reducible first | exact HB.out | apply below_alloc | apply pw_below_drewN | apply below_drew1 | refine below_set ?_ GE254.out) | exact HB.out)⟩
 ·rw [if_neg c3] at H
  have c3b0 : (t255.toList == ([] : List UInt8)) = false:=beq_eq_false_iff_ne.mpr c3
  have c3b1 : (t255.toList != ([] : List UInt8)) = true:=bne_iff_ne.mpr c3
  by_cases c7 : a0_0 = true
  ·subst c7
   have H1 : (if 1 ≤ 33 then (if 33 ≤ (t255.size : Int) then (some (t255.extract 1 33)) else (none)) else (none)) = some r:=by rw [if_pos rfl] at H;exact H
   clear H
   have H:=H1
   clear H1
   by_cases c8 : 1 ≤ 33
   ·rw [if_pos c8] at H
    have c8b0:=eq_true c8
    have c8b1 : decide (1 ≤ 33) = true:=decide_eq_true c8
    clear c8
    by_cases c9 : 33 ≤ (t255.size : Int)
    ·rw [if_pos c9] at H
     have c9b0:=eq_true c9
     have c9b1 : decide (33 ≤ (t255.size : Int)) = true:=decide_eq_true c9
     clear c9
     obtain rfl:=Option.some.inj H
     go_enter Try.func122,Try.ntmps122
     go_wp2_with (first | ((with_reducible refine gate_dst (N:=1) rfl ?_);refine box_event ?hg (N:=1) ?hd (cs := #[.bool true, .int .u32 a0_1, .bool a0_2, .int .i64 a0_3, .slice A0_4 l0_4.length c0_4]) (t:=45) ?hr ?_;(case hd => rfl);(case hg => rfl);(case hr => first | (go_simp;done) | (go_simp;rfl));intro gb254 hg w10 hbox hb;have n0_:=Aside0.mk (below_step (by repeat (first | (with_reducible first | exact HB.out | apply below_alloc | apply pw_below_drewN | apply below_drew1) | exact HB.out)) hb);have n1_:=Aside0.mk (hbox);have n2_:=Aside0.mk ((by rw [hg];exact (below_size (by repeat (first | (with_reducible first | exact HB.out | apply below_alloc | apply pw_below_drewN | apply below_drew1) | exact HB.out))) : w.heap.size ≤ gb254));have n3_:=Aside0.mk ((by rw [hg];exact (below_size (by repeat (first | (with_reducible first | exact HB.out | apply below_alloc | apply pw_below_drewN | apply below_drew1) | exact HB.out))) : w.heap.size ≤ gb254));clear HB;have HB:=n0_;have BK254:=n1_;have GW254:=n2_;have GE254:=n3_;clear n0_ n1_ n2_ n3_;clear hb hbox hg;obtain ⟨hcz11_0,hcz11_1,hcz11_2,hcz11_3,hcz11_4⟩:=bc5 BK254.out;obtain ⟨hfz11_0,hfz11_1,hfz11_2,hfz11_3,hfz11_4⟩:=bf5 BK254.out) | ((with_reducible refine gate_callee (f:=145) rfl ?_);refine goesL_ (some 5) rfl rfl Try.func145 (by kernel_rfl) rfl #[.agg #[.bool true, .int .u32 a0_1, .bool a0_2, .int .i64 a0_3, .slice A0_4 l0_4.length c0_4]] rfl (by (try simp only [List.map_toArray,List.map_cons,List.map_nil]);first | done | rfl | (simp only [List.length_drop,List.length_take];rfl)) ?_;(with_reducible refine (impl_Body.calls true a0_1 a0_2 a0_3 _ _ l0_4 t255 _ ?side1 ?side2 A2.out).mono ?_);(case side1 => repeat (first | exact (Kd.C_below HR0_4.out HB.out) | (with_reducible refine Kd.C_alloc ?_ _) | (with_reducible refine Kd.C_drewN ?_ _) | (with_reducible refine Kd.C_drew ?_)));(case side2 => exact HC0_4.out);rintro e w12 ⟨rfl,hb⟩;refine ⟨_,rfl, ?_⟩;have n0_:=Aside0.mk (blk_below (g:=gb254) (o := .cells #[.bool true, .int .u32 a0_1, .bool a0_2, .int .i64 a0_3, .slice A0_4 l0_4.length c0_4] 45 (0,0)) (by (with_reducible repeat (first | refine blk_drewN ?_ _ | refine blk_drew ?_ | refine blk_alloc ?_ _));exact BK254.out) hb);have n1_:=Aside0.mk (below_step (by repeat (first | (with_reducible first | exact HB.out | apply below_alloc | apply pw_below_drewN | apply below_drew1 | refine below_set ?_ GE254.out) | exact HB.out)) hb);clear BK254;clear HB;have BK254:=n0_;have HB:=n1_;clear n0_ n1_;(try clear hb);(try clear hb2);(try clear hk);(try clear hi);obtain ⟨hcz13_0,hcz13_1,hcz13_2,hcz13_3,hcz13_4⟩:=bc5 BK254.out;obtain ⟨hfz13_0,hfz13_1,hfz13_2,hfz13_3,hfz13_4⟩:=bf5 BK254.out))
     go_ret
     exact ⟨by first | rfl | (simp [errW_none,errW_some] <;> rfl) | (simp [*,errW_none,errW_some] <;> rfl),by repeat (first | (with_reducible first | exact HB.out | apply below_alloc | apply pw_below_drewN | apply below_drew1 | refine below_set ?_ GE254.out) | exact HB.out)⟩
    ·rw [if_neg c9] at H
     exact absurd H (by simp)
   ·rw [if_neg c8] at H
    exact absurd H (by simp)
  ·replace c7:=Bool.eq_false_iff.mpr c7
   subst c7
   have H1 : (if 1 ≤ 14 then (if 14 ≤ (t255.size : Int) then (some (t255.extract 1 14)) else (none)) else (none)) = some r:=by rw [if_neg (show ¬ (false = true) by decide)] at H;exact H
   clear H
   have H:=H1
   clear H1
   by_cases c14 : 1 ≤ 14
   ·rw [if_pos c14] at H
    have c14b0:=eq_true c14
    have c14b1 : decide (1 ≤ 14) = true:=decide_eq_true c14
    clear c14
    by_cases c15 : 14 ≤ (t255.size : Int)
    ·rw [if_pos c15] at H
     have c15b0:=eq_true c15
     have c15b1 : decide (14 ≤ (t255.size : Int)) = true:=decide_eq_true c15
     clear c15
     obtain rfl:=Option.some.inj H
     go_enter Try.func122,Try.ntmps122
     go_wp2_with (first | ((with_reducible refine gate_dst (N:=1) rfl ?_);refine box_event ?hg (N:=1) ?hd (cs := #[.bool false, .int .u32 a0_1, .bool a0_2, .int .i64 a0_3, .slice A0_4 l0_4.length c0_4]) (t:=45) ?hr ?_;(case hd => rfl);(case hg => rfl);(case hr => first | (go_simp;done) | (go_simp;rfl));intro gb254 hg w16 hbox hb;have n0_:=Aside0.mk (below_step (by repeat (first | (with_reducible first | exact HB.out | apply below_alloc | apply pw_below_drewN | apply below_drew1) | exact HB.out)) hb);have n1_:=Aside0.mk (hbox);have n2_:=Aside0.mk ((by rw [hg];exact (below_size (by repeat (first | (with_reducible first | exact HB.out | apply below_alloc | apply pw_below_drewN | apply below_drew1) | exact HB.out))) : w.heap.size ≤ gb254));have n3_:=Aside0.mk ((by rw [hg];exact (below_size (by repeat (first | (with_reducible first | exact HB.out | apply below_alloc | apply pw_below_drewN | apply below_drew1) | exact HB.out))) : w.heap.size ≤ gb254));clear HB;have HB:=n0_;have BK254:=n1_;have GW254:=n2_;have GE254:=n3_;clear n0_ n1_ n2_ n3_;clear hb hbox hg;obtain ⟨hcz17_0,hcz17_1,hcz17_2,hcz17_3,hcz17_4⟩:=bc5 BK254.out;obtain ⟨hfz17_0,hfz17_1,hfz17_2,hfz17_3,hfz17_4⟩:=bf5 BK254.out) | ((with_reducible refine gate_callee (f:=145) rfl ?_);refine goesL_ (some 5) rfl rfl Try.func145 (by kernel_rfl) rfl #[.agg #[.bool false, .int .u32 a0_1, .bool a0_2, .int .i64 a0_3, .slice A0_4 l0_4.length c0_4]] rfl (by (try simp only [List.map_toArray,List.map_cons,List.map_nil]);first | done | rfl | (simp only [List.length_drop,List.length_take];rfl)) ?_;(with_reducible refine (impl_Body.calls false a0_1 a0_2 a0_3 _ _ l0_4 t255 _ ?side1 ?side2 A2.out).mono ?_);(case side1 => repeat (first | exact (Kd.C_below HR0_4.out HB.out) | (with_reducible refine Kd.C_alloc ?_ _) | (with_reducible refine Kd.C_drewN ?_ _) | (with_reducible refine Kd.C_drew ?_)));(case side2 => exact HC0_4.out);rintro e w18 ⟨rfl,hb⟩;refine ⟨_,rfl, ?_⟩;have n0_:=Aside0.mk (blk_below (g:=gb254) (o := .cells #[.bool false, .int .u32 a0_1, .bool a0_2, .int .i64 a0_3, .slice A0_4 l0_4.length c0_4] 45 (0,0)) (by (with_reducible repeat (first | refine blk_drewN ?_ _ | refine blk_drew ?_ | refine blk_alloc ?_ _));exact BK254.out) hb);have n1_:=Aside0.mk (below_step (by repeat (first | (with_reducible first | exact HB.out | apply below_alloc | apply pw_below_drewN | apply below_drew1 | refine below_set ?_ GE254.out) | exact HB.out)) hb);clear BK254;clear HB;have BK254:=n0_;have HB:=n1_;clear n0_ n1_;(try clear hb);(try clear hb2);(try clear hk);(try clear hi);obtain ⟨hcz19_0,hcz19_1,hcz19_2,hcz19_3,hcz19_4⟩:=bc5 BK254.out;obtain ⟨hfz19_0,hfz19_1,hfz19_2,hfz19_3,hfz19_4⟩:=bf5 BK254.out))
     go_ret
     exact ⟨by first | rfl | (simp [errW_none,errW_some] <;> rfl) | (simp [*,errW_none,errW_some] <;> rfl),by repeat (first | (with_reducible first | exact HB.out | apply below_alloc | apply pw_below_drewN | apply below_drew1 | refine below_set ?_ GE254.out) | exact HB.out)⟩
    ·rw [if_neg c15] at H
     exact absurd H (by simp)
   ·rw [if_neg c14] at H
    exact absurd H (by simp)
end Go.Proofs.Ytcaefabbcjlkdaa.P
namespace Go.Proofs.Ytcaefabbcjlkdaa.P
open Go Go.RowKit Go.Proofs.YtcaefabbcjlkdaaW.PrintWords
set_option linter.unusedVariables false
theorem bodyV_size {e : Bool} {i : Int} {r : Bool} {d : Int} {l : List Int} (hv : validF e i r d l.length = true) : (bodyV e i r d l).size = (headL e i r).length + 4 + 8 * l.length:=by
 unfold bodyV
 rw [if_pos hv,strOfNums_size,bodyL,List.length_append,List.length_append,numL_length,dataL_length]
theorem headL_true (i : Int) (r : Bool) : (headL true i r).length = 35:=by simp [headL,numL_length,flagL]
theorem headL_false (i : Int) (r : Bool) : (headL false i r).length = 15:=by simp [headL,numL_length,flagL]
def arbV (e : Bool) (i : Int) (r : Bool) (d : Int) (l : List Int) : ByteArray:=if validF e i r d l.length = true then (if e = true then (bodyV e i r d l).extract 1 33 else (bodyV e i r d l).extract 1 14) else ⟨#[]⟩
theorem specArb_ev {e : Bool} {i : Int} {r : Bool} {d : Int} {l : List Int} (hq : 0 ≤ i ∧ okBytes l = true) : Ev (fun k => spec_Arb.f k e i r d l) (arbV e i r d l):=by
 have h1 : spec_Body.f e i r d l = some (bodyV e i r d l):=by unfold spec_Body.f;rw [if_pos hq]
 unfold spec_Arb.f
 refine Ev.bind (specValid_ev e i r d l) ?_
 unfold arbV
 cases hv : validF e i r d l.length with
 | false => exact ev_neg (by decide) (Ev.now _)
 | true =>
  have hs:=bodyV_size hv
  refine ev_pos rfl (ev_some h1 ?_)
  cases e with
  | true => rw [headL_true] at hs;exact ev_pos rfl (ev_pos (by omega) (ev_pos (by omega) (Ev.now _)))
  | false => rw [headL_false] at hs;exact ev_neg (by decide) (ev_pos (by omega) (ev_pos (by omega) (Ev.now _)))
theorem implArb_eq {e : Bool} {i : Int} {r : Bool} {d : Int} {l : List Int} (hq : 0 ≤ i ∧ okBytes l = true) : impl_Arb.f e i r d l = some (arbV e i r d l):=by
 have h1 : impl_Body.f e i r d l = some (bodyV e i r d l):=by unfold impl_Body.f;rw [if_pos hq]
 unfold impl_Arb.f
 rw [h1,Option.bind_some]
 unfold arbV
 cases hv : validF e i r d l.length with
 | false =>
  have : bodyV e i r d l = ⟨#[]⟩:=by unfold bodyV;rw [hv];rfl
  rw [this,if_pos (by rw [ByteArray.toList_eq])]
  rfl
 | true =>
  have hs:=bodyV_size hv
  have hne : ¬ (bodyV e i r d l).toList = ([] : List UInt8):=by
   rw [ByteArray.toList_eq]
   intro h
   have h2 : (bodyV e i r d l).size = 0:=by
    have:=congrArg List.length h
    rw [Array.length_toList] at this
    exact this
   omega
  rw [if_neg hne]
  cases e with
  | true => rw [headL_true] at hs;rw [if_pos rfl,if_pos (by omega),if_pos (by omega)];rfl
  | false => rw [headL_false] at hs;rw [if_neg (by decide),if_pos (by omega),if_pos (by omega)];rfl
theorem bl_irr (x : List UInt8) : Op.bytesLess x x = false:=by
 induction x with
 | nil => rfl
 | cons a x ih =>
  rw [Op.bytesLess,ih,Bool.and_false,Bool.or_false]
  exact decide_eq_false (UInt8.lt_irrefl a)
theorem bl_cons {a b : UInt8} {x y : List UInt8} : Op.bytesLess (a :: x) (b :: y) = true ↔ a < b ∨ (a = b ∧ Op.bytesLess x y = true):=by
 rw [Op.bytesLess,Bool.or_eq_true,Bool.and_eq_true,decide_eq_true_eq,beq_iff_eq]
theorem bl_trans {x y z : List UInt8} (h : Op.bytesLess x y = true) (h' : Op.bytesLess y z = true) : Op.bytesLess x z = true:=by
 induction x generalizing y z with
 | nil =>
  cases z with
  | nil => cases y <;> cases h'
  | cons c z => rfl
 | cons a x ih =>
  cases y with
  | nil => cases h
  | cons b y =>
   cases z with
   | nil => cases h'
   | cons c z =>
    rw [bl_cons] at h h' ⊢
    rcases h with h | ⟨rfl,h⟩
    ·rcases h' with h' | ⟨rfl,h'⟩
     ·exact .inl (UInt8.lt_trans h h')
     ·exact .inl h
    ·rcases h' with h' | ⟨rfl,h'⟩
     ·exact .inl h'
     ·exact .inr ⟨rfl,ih h h'⟩
theorem bl_tri (x y : List UInt8) : Op.bytesLess x y = true ∨ x = y ∨ Op.bytesLess y x = true:=by
 induction x generalizing y with
 | nil =>
  cases y with
  | nil => exact .inr (.inl rfl)
  | cons b y => exact .inl rfl
 | cons a x ih =>
  cases y with
  | nil => exact .inr (.inr rfl)
  | cons b y =>
   rw [bl_cons,bl_cons]
   rcases Nat.lt_trichotomy a.toNat b.toNat with c | c | c
   ·exact .inl (.inl (UInt8.lt_iff_toNat_lt.2 c))
   ·have e : a = b:=UInt8.toNat_inj.1 c
    subst e
    rcases ih y with h | rfl | h
    ·exact .inl (.inr ⟨rfl,h⟩)
    ·exact .inr (.inl rfl)
    ·exact .inr (.inr (.inr ⟨rfl,h⟩))
   ·exact .inr (.inr (.inl (UInt8.lt_iff_toNat_lt.2 c)))
def arbB (b : S87) : ByteArray:=arbV b.f3.f0 b.f3.f1 b.f3.f2 b.f3.f3 b.f3.f4
def Less (a b : S87) : Prop:=Op.bytesLess (arbB a).toList (arbB b).toList = true ∨ ((arbB a).toList = (arbB b).toList ∧ a.f2 < b.f2)
theorem Less.trans {a b c : S87} (h : Less a b) (h' : Less b c) : Less a c:=by
 rcases h with h | ⟨e,h⟩
 ·rcases h' with h' | ⟨e',h'⟩
  ·exact .inl (bl_trans h h')
  ·exact .inl (by rw [← e'];exact h)
 ·rcases h' with h' | ⟨e',h'⟩
  ·exact .inl (by rw [e];exact h')
  ·exact .inr ⟨e.trans e',by omega⟩
theorem Less.irr {a : S87} (h : Less a a) : False:=by
 rcases h with h | ⟨_,h⟩
 ·rw [bl_irr] at h;cases h
 ·omega
theorem Less.tri {a b : S87} (hn : a.f2 ≠ b.f2) (h : ¬ Less a b) : Less b a:=by
 rcases bl_tri (arbB a).toList (arbB b).toList with c | c | c
 ·exact absurd (.inl c) h
 ·have : ¬ a.f2 < b.f2:=fun q => h (.inr ⟨c,q⟩)
  exact .inr ⟨c.symm,by omega⟩
 ·exact .inl c
def IsBest (bs : List S87) (n : Nat) (r : Int) : Prop:=(r = -1 ∧ ∀ j,j < n → (bxAt bs j).f0 ≠ 1) ∨ ∃ i : Nat,i < n ∧ r = (i : Int) ∧ (bxAt bs i).f0 = 1 ∧ ∀ j,j < n → j ≠ i → (bxAt bs j).f0 = 1 → Less (bxAt bs i) (bxAt bs j)
section
variable {bs : List S87} {n : Nat} {r r' : Int}
theorem IsBest.zero (bs : List S87) : IsBest bs 0 (-1) := .inl ⟨rfl,fun j hj => absurd hj (Nat.not_lt_zero _)⟩
theorem IsBest.skip (H : IsBest bs n r) (h : (bxAt bs n).f0 ≠ 1) : IsBest bs (n + 1) r:=by
 rcases H with ⟨e,h0⟩ | ⟨i,h1,e,h2,h3⟩
 ·exact .inl ⟨e,fun j hj => by by_cases c : j = n;rw [c];exact h;exact h0 j (by omega)⟩
 ·exact .inr ⟨i,by omega,e,h2,fun j hj hn hw => by
   by_cases c : j = n
   ·rw [c] at hw;exact absurd hw h
   ·exact h3 j (by omega) hn hw⟩
theorem IsBest.first (H : IsBest bs n r) (hr : r = -1) (h : (bxAt bs n).f0 = 1) : IsBest bs (n + 1) (n : Int):=by
 rcases H with ⟨e,h0⟩ | ⟨i,h1,e,h2,h3⟩
 ·exact .inr ⟨n,by omega,rfl,h,fun j hj hn hw => absurd hw (h0 j (by omega))⟩
 ·omega
theorem IsBest.new {i : Nat} (H : IsBest bs n (i : Int)) (h : (bxAt bs n).f0 = 1) (hl : Less (bxAt bs n) (bxAt bs i)) : IsBest bs (n + 1) (n : Int):=by
 rcases H with ⟨e,h0⟩ | ⟨t,h1,e,h2,h3⟩
 ·omega
 ·have ht : t = i:=by omega
  subst ht
  refine .inr ⟨n,by omega,rfl,h,fun j hj hn hw => ?_⟩
  by_cases c : j = t
  ·rw [c];exact hl
  ·exact hl.trans (h3 j (by omega) c hw)
theorem IsBest.keep {i : Nat} (H : IsBest bs n (i : Int)) (h : (bxAt bs n).f0 = 1) (hl : ¬ Less (bxAt bs n) (bxAt bs i)) (hs : (bxAt bs n).f2 ≠ (bxAt bs i).f2) : IsBest bs (n + 1) (i : Int):=by
 rcases H with ⟨e,h0⟩ | ⟨t,h1,e,h2,h3⟩
 ·omega
 ·have ht : t = i:=by omega
  subst ht
  refine .inr ⟨t,by omega,rfl,h2,fun j hj hn hw => ?_⟩
  by_cases c : j = n
  ·rw [c];exact Less.tri hs hl
  ·exact h3 j (by omega) hn hw
theorem IsBest.cases (H : IsBest bs n r) : r = -1 ∨ ∃ i : Nat,i < n ∧ r = (i : Int) ∧ (bxAt bs i).f0 = 1:=by
 rcases H with ⟨e,_⟩ | ⟨i,h1,e,h2,_⟩
 ·exact .inl e
 ·exact .inr ⟨i,h1,e,h2⟩
theorem IsBest.at {i : Nat} (H : IsBest bs n r) (hi : i < n) (hw : (bxAt bs i).f0 = 1) (hl : ∀ j,j < n → j ≠ i → (bxAt bs j).f0 = 1 → Less (bxAt bs i) (bxAt bs j)) : r = (i : Int):=by
 rcases H with ⟨_,h⟩ | ⟨j,h1,h2,h3,h4⟩
 ·exact absurd hw (h i hi)
 ·by_cases c : j = i
  ·rw [h2,c]
  ·exact absurd ((h4 i hi (fun e => c e.symm) hw).trans (hl j h1 c h3)) (fun q => q.irr)
theorem IsBest.none (H : IsBest bs n r) (hn : ∀ i : Nat,i < n → (bxAt bs i).f0 = 1 → r ≠ (i : Int)) : r = -1:=by
 rcases H.cases with e | ⟨i,h1,h2,h3⟩
 ·exact e
 ·exact absurd h2 (hn i h1 h3)
theorem IsBest.uniq (H : IsBest bs n r) (H' : IsBest bs n r') : r = r':=by
 rcases H with ⟨h,h0⟩ | ⟨j,h1,h2,h3,h4⟩
 ·rw [h]
  rcases H'.cases with e | ⟨i,k1,k2,k3⟩
  ·rw [e]
  ·exact absurd k3 (h0 i k1)
 ·rw [h2,H'.at h1 h3 h4]
theorem IsBest.total (bs : List S87) (hu : Uniq (·.f2) bs bs.length) (n : Nat) (hn : n ≤ bs.length) : ∃ r,IsBest bs n r:=by
 induction n with
 | zero => exact ⟨-1,IsBest.zero bs⟩
 | succ n ih =>
  obtain ⟨r,H⟩:=ih (by omega)
  by_cases h : (bxAt bs n).f0 = 1
  ·rcases H.cases with e | ⟨i,h1,rfl,h3⟩
   ·exact ⟨_,H.first e h⟩
   ·by_cases c : Less (bxAt bs n) (bxAt bs i)
    ·exact ⟨_,H.new h c⟩
    ·exact ⟨_,H.keep h c (hu n i h1 (by omega) (by unfold Live;omega) (by unfold Live;omega))⟩
  ·exact ⟨r,H.skip h⟩
end
end Go.Proofs.Ytcaefabbcjlkdaa.P
