/- Texts of the proof of CFnExactScanBit, joined. -/
import Derived.Test.YtdoclpgciadjaaaDoorSCFnExactScanBit21
namespace Go.Proofs.YtdoclpgciadjaaaDoor.P
open Go.RowKit Go.Proofs.YtdoclpgciadjaaaDoorW.PrintWords Go.Proofs.YtdoclpgciadjaaaDoorW.PrintLast Go.Proofs.YtdoclpgciadjaaaDoorW.PrintMore
set_option linter.unusedVariables false
set_option linter.unusedSimpArgs false
def spec_l2verdict.j0 : Nat → Int → Bool → Int → Int → Int → Int → Int → Int → Bool → Int → Bool → Int → List Int → Option (Int)
 | 0,_,_,_,_,_,_,_,_,_,_,_,_,_ => none
 | k + 1,x1,x32,x127000,x127001,x127002,x127003,x127004,x127005,x127006,x127007,x127008,x127009,x127010 => if x32 = true then (some 4) else (if x1 = 0 then (some 6) else (if x127001 = 2 then (some 1) else (if x127001 = 1 then (some 2) else (some 0))))
def spec_l2verdict.f (k : Nat) (a0_0 : Int) (a0_1 : Int) (a0_2 : Int) (a0_3 : Int) (a0_4 : Int) (a0_5 : Int) (a0_6 : Bool) (a0_7 : Int) (a0_8 : Bool) (a0_9 : Int) (l0_10 : List Int) (a1 : Int) : Option (Int):=if a0_0 = 1 then (if a1 = 1 then (some 4) else (some 0)) else (if a0_0 = 11 then (if a1 = 0 then (some 4) else (some 0)) else (if a0_0 = 13 then (if a1 = 0 then (some 4) else (if a0_5 = a0_4 then (some 0) else (some 5))) else (if a0_0 = 14 then (if a1 = 0 then (spec_l2verdict.j0 k a1 (decide (a0_1 > 1)) a0_0 a0_1 a0_2 a0_3 a0_4 a0_5 a0_6 a0_7 a0_8 a0_9 l0_10) else (spec_l2verdict.j0 k a1 false a0_0 a0_1 a0_2 a0_3 a0_4 a0_5 a0_6 a0_7 a0_8 a0_9 l0_10)) else (some 0))))
set_option maxHeartbeats 8000000 in
set_option maxRecDepth 100000 in
theorem spec_l2verdict.calls (k : Nat) (a0_0 : Int) (a0_1 : Int) (a0_2 : Int) (a0_3 : Int) (a0_4 : Int) (a0_5 : Int) (a0_6 : Bool) (a0_7 : Int) (a0_8 : Bool) (a0_9 : Int) (A0_10 : Option Addr) (c0_10 : Nat) (l0_10 : List Int) (a1 : Int) (r : Int) (w : World) (hr0_10 : Kd.C (Kd.int .u8) w A0_10 l0_10.length l0_10) (hc0_10 : l0_10.length ≤ c0_10) (h : spec_l2verdict.f k a0_0 a0_1 a0_2 a0_3 a0_4 a0_5 a0_6 a0_7 a0_8 a0_9 l0_10 a1 = some r) :
  Calls Tryd.prog 21 #[.agg #[.int .i64 a0_0, .int .i64 a0_1, .int .i64 a0_2, .int .i64 a0_3, .int .i64 a0_4, .int .i64 a0_5, .bool a0_6, .int .u32 a0_7, .bool a0_8, .int .i64 a0_9, .slice A0_10 l0_10.length c0_10], .int .i64 a1] w fun e w' => e = .returned (.int .i64 r) ∧ Below w.heap.size w w':=by
 have hu31:=Tryd.underlying31
 have HR0_10:=Aside0.mk hr0_10
 have HC0_10:=Aside0.mk hc0_10
 clear hr0_10 hc0_10
 have HB:=Aside0.mk (Below.refl w.heap.size w)
 have H : (if a0_0 = 1 then (if a1 = 1 then (some 4) else (some 0)) else (if a0_0 = 11 then (if a1 = 0 then (some 4) else (some 0)) else (if a0_0 = 13 then (if a1 = 0 then (some 4) else (if a0_5 = a0_4 then (some 0) else (some 5))) else (if a0_0 = 14 then (if a1 = 0 then (spec_l2verdict.j0 k a1 (decide (a0_1 > 1)) a0_0 a0_1 a0_2 a0_3 a0_4 a0_5 a0_6 a0_7 a0_8 a0_9 l0_10) else (spec_l2verdict.j0 k a1 false a0_0 a0_1 a0_2 a0_3 a0_4 a0_5 a0_6 a0_7 a0_8 a0_9 l0_10)) else (some 0))))) = some r:=h
 clear h
 by_cases c3 : a0_0 = 1
 ·rw [if_pos c3] at H
  have c3b0 : (a0_0 == 1) = true:=beq_iff_eq.mpr c3
  have c3b1 : (a0_0 != 1) = false:=bne_eq_false_iff_eq.mpr c3
  clear c3
  by_cases c4 : a1 = 1
  ·rw [if_pos c4] at H
   have c4b0 : (a1 == 1) = true:=beq_iff_eq.mpr c4
   have c4b1 : (a1 != 1) = false:=bne_eq_false_iff_eq.mpr c4
   clear c4
   obtain rfl:=Option.some.inj H
   go_enter Tryd.func21,Tryd.ntmps21
   go_wp2_with (first | ((with_reducible refine gate_dst (N:=2) rfl ?_);refine box_event ?hg (N:=2) ?hd (cs := #[.int .i64 a0_0, .int .i64 a0_1, .int .i64 a0_2, .int .i64 a0_3, .int .i64 a0_4, .int .i64 a0_5, .bool a0_6, .int .u32 a0_7, .bool a0_8, .int .i64 a0_9, .slice A0_10 l0_10.length c0_10]) (t:=31) ?hr ?_;(case hd => rfl);(case hg => rfl);(case hr => first | (go_simp;done) | (go_simp;rfl));intro gb126 hg w5 hbox hb;have n0_:=Aside0.mk (below_step (by repeat (first | (with_reducible first | exact HB.out | apply below_alloc | apply pw_below_drewN | apply below_drew1) | exact HB.out)) hb);have n1_:=Aside0.mk (hbox);have n2_:=Aside0.mk ((by rw [hg];exact (below_size (by repeat (first | (with_reducible first | exact HB.out | apply below_alloc | apply pw_below_drewN | apply below_drew1) | exact HB.out))) : w.heap.size ≤ gb126));have n3_:=Aside0.mk ((by rw [hg];exact (below_size (by repeat (first | (with_reducible first | exact HB.out | apply below_alloc | apply pw_below_drewN | apply below_drew1) | exact HB.out))) : w.heap.size ≤ gb126));clear HB;have HB:=n0_;have BK126:=n1_;have GW126:=n2_;have GE126:=n3_;clear n0_ n1_ n2_ n3_;clear hb hbox hg;obtain ⟨hcz6_0,hcz6_1,hcz6_2,hcz6_3,hcz6_4,hcz6_5,hcz6_6,hcz6_7,hcz6_8,hcz6_9,hcz6_10⟩:=bc11 BK126.out;obtain ⟨hfz6_0,hfz6_1,hfz6_2,hfz6_3,hfz6_4,hfz6_5,hfz6_6,hfz6_7,hfz6_8,hfz6_9,hfz6_10⟩:=bf11 BK126.out))
   go_ret
   exact ⟨by first | rfl | (simp [errW_none,errW_some] <;> rfl) | (simp [*,errW_none,errW_some] <;> rfl),by repeat (first | (with_reducible first | exact HB.out | apply below_alloc | apply pw_below_drewN | apply below_drew1 | refine below_set ?_ GE126.out) | exact HB.out)⟩
  ·rw [if_neg c4] at H
   have c4b0 : (a1 == 1) = false:=beq_eq_false_iff_ne.mpr c4
   have c4b1 : (a1 != 1) = true:=bne_iff_ne.mpr c4
   obtain rfl:=Option.some.inj H
   go_enter Tryd.func21,Tryd.ntmps21
   go_wp2_with (first | ((with_reducible refine gate_dst (N:=2) rfl ?_);refine box_event ?hg (N:=2) ?hd (cs := #[.int .i64 a0_0, .int .i64 a0_1, .int .i64 a0_2, .int .i64 a0_3, .int .i64 a0_4, .int .i64 a0_5, .bool a0_6, .int .u32 a0_7, .bool a0_8, .int .i64 a0_9, .slice A0_10 l0_10.length c0_10]) (t:=31) ?hr ?_;(case hd => rfl);(case hg => rfl);(case hr => first | (go_simp;done) | (go_simp;rfl));intro gb126 hg w7 hbox hb;have n0_:=Aside0.mk (below_step (by repeat (first | (with_reducible first | exact HB.out | apply below_alloc | apply pw_below_drewN | apply below_drew1) | exact HB.out)) hb);have n1_:=Aside0.mk (hbox);have n2_:=Aside0.mk ((by rw [hg];exact (below_size (by repeat (first | (with_reducible first | exact HB.out | apply below_alloc | apply pw_below_drewN | apply below_drew1) | exact HB.out))) : w.heap.size ≤ gb126));have n3_:=Aside0.mk ((by rw [hg];exact (below_size (by repeat (first | (with_reducible first | exact HB.out | apply below_alloc | apply pw_below_drewN | apply below_drew1) | exact HB.out))) : w.heap.size ≤ gb126));clear HB;have HB:=n0_;have BK126:=n1_;have GW126:=n2_;have GE126:=n3_;clear n0_ n1_ n2_ n3_;clear hb hbox hg;obtain ⟨hcz8_0,hcz8_1,hcz8_2,hcz8_3,hcz8_4,hcz8_5,hcz8_6,hcz8_7,hcz8_8,hcz8_9,hcz8_10⟩:=bc11 BK126.out;obtain ⟨hfz8_0,hfz8_1,hfz8_2,hfz8_3,hfz8_4,hfz8_5,hfz8_6,hfz8_7,hfz8_8,hfz8_9,hfz8_10⟩:=bf11 BK126.out))
   go_ret
   exact ⟨by first | rfl | (simp [errW_none,errW_some] <;> rfl) | (simp [*,errW_none,errW_some] <;> rfl),by repeat (first | (with_reducible first | exact HB.out | apply below_alloc | apply pw_below_drewN | apply below_drew1 | refine below_set ?_ GE126.out) | exact HB.out)⟩
 ·rw [if_neg c3] at H
  have c3b0 : (a0_0 == 1) = false:=beq_eq_false_iff_ne.mpr c3
  have c3b1 : (a0_0 != 1) = true:=bne_iff_ne.mpr c3
  by_cases c9 : a0_0 = 11
  ·rw [if_pos c9] at H
   have c9b0 : (a0_0 == 11) = true:=beq_iff_eq.mpr c9
   have c9b1 : (a0_0 != 11) = false:=bne_eq_false_iff_eq.mpr c9
   clear c9
   by_cases c10 : a1 = 0
   ·rw [if_pos c10] at H
    have c10b0 : (a1 == 0) = true:=beq_iff_eq.mpr c10
    have c10b1 : (a1 != 0) = false:=bne_eq_false_iff_eq.mpr c10
    clear c10
    obtain rfl:=Option.some.inj H
    go_enter Tryd.func21,Tryd.ntmps21
    go_wp2_with (first | ((with_reducible refine gate_dst (N:=2) rfl ?_);refine box_event ?hg (N:=2) ?hd (cs := #[.int .i64 a0_0, .int .i64 a0_1, .int .i64 a0_2, .int .i64 a0_3, .int .i64 a0_4, .int .i64 a0_5, .bool a0_6, .int .u32 a0_7, .bool a0_8, .int .i64 a0_9, .slice A0_10 l0_10.length c0_10]) (t:=31) ?hr ?_;(case hd => rfl);(case hg => rfl);(case hr => first | (go_simp;done) | (go_simp;rfl));intro gb126 hg w11 hbox hb;have n0_:=Aside0.mk (below_step (by repeat (first | (with_reducible first | exact HB.out | apply below_alloc | apply pw_below_drewN | apply below_drew1) | exact HB.out)) hb);have n1_:=Aside0.mk (hbox);have n2_:=Aside0.mk ((by rw [hg];exact (below_size (by repeat (first | (with_reducible first | exact HB.out | apply below_alloc | apply pw_below_drewN | apply below_drew1) | exact HB.out))) : w.heap.size ≤ gb126));have n3_:=Aside0.mk ((by rw [hg];exact (below_size (by repeat (first | (with_reducible first | exact HB.out | apply below_alloc | apply pw_below_drewN | apply below_drew1) | exact HB.out))) : w.heap.size ≤ gb126));clear HB;have HB:=n0_;have BK126:=n1_;have GW126:=n2_;have GE126:=n3_;clear n0_ n1_ n2_ n3_;clear hb hbox hg;obtain ⟨hcz12_0,hcz12_1,hcz12_2,hcz12_3,hcz12_4,hcz12_5,hcz12_6,hcz12_7,hcz12_8,hcz12_9,hcz12_10⟩:=bc11 BK126.out;obtain ⟨hfz12_0,hfz12_1,hfz12_2,hfz12_3,hfz12_4,hfz12_5,hfz12_6,hfz12_7,hfz12_8,hfz12_9,hfz12_10⟩:=bf11 BK126.out))
    go_ret
    exact ⟨by first | rfl | (simp [errW_none,errW_some] <;> rfl) | (simp [*,errW_none,errW_some] <;> rfl),by repeat (first | (with_reducible first | exact HB.out | apply below_alloc | apply pw_below_drewN | apply below_drew1 | refine below_set ?_ GE126.out) | exact HB.out)⟩
   ·rw [if_neg c10] at H
    have c10b0 : (a1 == 0) = false:=beq_eq_false_iff_ne.mpr c10
    have c10b1 : (a1 != 0) = true:=bne_iff_ne.mpr c10
    obtain rfl:=Option.some.inj H
    go_enter Tryd.func21,Tryd.ntmps21
    go_wp2_with (first | ((with_reducible refine gate_dst (N:=2) rfl ?_);refine box_event ?hg (N:=2) ?hd (cs := #[.int .i64 a0_0, .int .i64 a0_1, .int .i64 a0_2, .int .i64 a0_3, .int .i64 a0_4, .int .i64 a0_5, .bool a0_6, .int .u32 a0_7, .bool a0_8, .int .i64 a0_9, .slice A0_10 l0_10.length c0_10]) (t:=31) ?hr ?_;(case hd => rfl);(case hg => rfl);(case hr => first | (go_simp;done) | (go_simp;rfl));intro gb126 hg w13 hbox hb;have n0_:=Aside0.mk (below_step (by repeat (first | (with_reducible first | exact HB.out | apply below_alloc | apply pw_below_drewN | apply below_drew1) | exact HB.out)) hb);have n1_:=Aside0.mk (hbox);have n2_:=Aside0.mk ((by rw [hg];exact (below_size (by repeat (first | (with_reducible first | exact HB.out | apply below_alloc | apply pw_below_drewN | apply below_drew1) | exact HB.out))) : w.heap.size ≤ gb126));have n3_:=Aside0.mk ((by rw [hg];exact (below_size (by repeat (first | (with_reducible first | exact HB.out | apply below_alloc | apply pw_below_drewN | apply below_drew1) | exact HB.out))) : w.heap.size ≤ gb126));clear HB;have HB:=n0_;have BK126:=n1_;have GW126:=n2_;have GE126:=n3_;clear n0_ n1_ n2_ n3_;clear hb hbox hg;obtain ⟨hcz14_0,hcz14_1,hcz14_2,hcz14_3,hcz14_4,hcz14_5,hcz14_6,hcz14_7,hcz14_8,hcz14_9,hcz14_10⟩:=bc11 BK126.out;obtain ⟨hfz14_0,hfz14_1,hfz14_2,hfz14_3,hfz14_4,hfz14_5,hfz14_6,hfz14_7,hfz14_8,hfz14_9,hfz14_10⟩:=bf11 BK126.out))
    go_ret
    exact ⟨by first | rfl | (simp [errW_none,errW_some] <;> rfl) | (simp [*,errW_none,errW_some] <;> rfl),by repeat (first | (with_reducible first | exact HB.out | apply below_alloc | apply pw_below_drewN | apply below_drew1 | refine below_set ?_ GE126.out) | exact HB.out)⟩
  ·rw [if_neg c9] at H
   have c9b0 : (a0_0 == 11) = false:=beq_eq_false_iff_ne.mpr c9
   have c9b1 : (a0_0 != 11) = true:=bne_iff_ne.mpr c9
   by_cases c15 : a0_0 = 13
   ·rw [if_pos c15] at H
    have c15b0 : (a0_0 == 13) = true:=beq_iff_eq.mpr c15
    have c15b1 : (a0_0 != 13) = false:=bne_eq_false_iff_eq.mpr c15
    clear c15
    by_cases c16 : a1 = 0
    ·rw [if_pos c16] at H
     have c16b0 : (a1 == 0) = true:=beq_iff_eq.mpr c16
     have c16b1 : (a1 != 0) = false:=bne_eq_false_iff_eq.mpr c16
     clear c16
     obtain rfl:=Option.some.inj H
     go_enter Tryd.func21,Tryd.ntmps21
     go_wp2_with (first | ((with_reducible refine gate_dst (N:=2) rfl ?_);refine box_event ?hg (N:=2) ?hd (cs := #[.int .i64 a0_0, .int .i64 a0_1, .int .i64 a0_2, .int .i64 a0_3, .int .i64 a0_4, .int .i64 a0_5, .bool a0_6, .int .u32 a0_7, .bool a0_8, .int .i64 a0_9, .slice A0_10 l0_10.length c0_10]) (t:=31) ?hr ?_;(case hd => rfl);(case hg => rfl);(case hr => first | (go_simp;done) | (go_simp;rfl));intro gb126 hg w17 hbox hb;have n0_:=Aside0.mk (below_step (by repeat (first | (with_reducible first | exact HB.out | apply below_alloc | apply pw_below_drewN | apply below_drew1) | exact HB.out)) hb);have n1_:=Aside0.mk (hbox);have n2_:=Aside0.mk ((by rw [hg];exact (below_size (by repeat (first | (with_reducible first | exact HB.out | apply below_alloc | apply pw_below_drewN | apply below_drew1) | exact HB.out))) : w.heap.size ≤ gb126));have n3_:=Aside0.mk ((by rw [hg];exact (below_size (by repeat (first | (with_reducible first | exact HB.out | apply below_alloc | apply pw_below_drewN | apply below_drew1) | exact HB.out))) : w.heap.size ≤ gb126));clear HB;have HB:=n0_;have BK126:=n1_;have GW126:=n2_;have GE126:=n3_;clear n0_ n1_ n2_ n3_;clear hb hbox hg;obtain ⟨hcz18_0,hcz18_1,hcz18_2,hcz18_3,hcz18_4,hcz18_5,hcz18_6,hcz18_7,hcz18_8,hcz18_9,hcz18_10⟩:=bc11 BK126.out;obtain ⟨hfz18_0,hfz18_1,hfz18_2,hfz18_3,hfz18_4,hfz18_5,hfz18_6,hfz18_7,hfz18_8,hfz18_9,hfz18_10⟩:=bf11 BK126.out))
     go_ret
     exact ⟨by first | rfl | (simp [errW_none,errW_some] <;> rfl) | (simp [*,errW_none,errW_some] <;> rfl),by repeat (first | (with_reducible first | exact HB.out | apply below_alloc | apply pw_below_drewN | apply below_drew1 | refine below_set ?_ GE126.out) | exact HB.out)⟩
    ·rw [if_neg c16] at H
     have c16b0 : (a1 == 0) = false:=beq_eq_false_iff_ne.mpr c16
     have c16b1 : (a1 != 0) = true:=bne_iff_ne.mpr c16
     by_cases c19 : a0_5 = a0_4
     ·rw [if_pos c19] at H
      have c19b0 : (a0_5 == a0_4) = true:=beq_iff_eq.mpr c19
      have c19b1 : (a0_5 != a0_4) = false:=bne_eq_false_iff_eq.mpr c19
      clear c19
      obtain rfl:=Option.some.inj H
      go_enter Tryd.func21,Tryd.ntmps21
      go_wp2_with (first | ((with_reducible refine gate_dst (N:=2) rfl ?_);refine box_event ?hg (N:=2) ?hd (cs := #[.int .i64 a0_0, .int .i64 a0_1, .int .i64 a0_2, .int .i64 a0_3, .int .i64 a0_4, .int .i64 a0_5, .bool a0_6, .int .u32 a0_7, .bool a0_8, .int .i64 a0_9, .slice A0_10 l0_10.length c0_10]) (t:=31) ?hr ?_;(case hd => rfl);(case hg => rfl);(case hr => first | (go_simp;done) | (go_simp;rfl));intro gb126 hg w20 hbox hb;have n0_:=Aside0.mk (below_step (by repeat (first | (with_reducible first | exact HB.out | apply below_alloc | apply pw_below_drewN | apply below_drew1) | exact HB.out)) hb);have n1_:=Aside0.mk (hbox);have n2_:=Aside0.mk ((by rw [hg];exact (below_size (by repeat (first | (with_reducible first | exact HB.out | apply below_alloc | apply pw_below_drewN | apply below_drew1) | exact HB.out))) : w.heap.size ≤ gb126));have n3_:=Aside0.mk ((by rw [hg];exact (below_size (by repeat (first | (with_reducible first | exact HB.out | apply below_alloc | apply pw_below_drewN | apply below_drew1) | exact HB.out))) : w.heap.size ≤ gb126));clear HB;have HB:=n0_;have BK126:=n1_;have GW126:=n2_;have GE126:=n3_;clear n0_ n1_ n2_ n3_;clear hb hbox hg;obtain ⟨hcz21_0,hcz21_1,hcz21_2,hcz21_3,hcz21_4,hcz21_5,hcz21_6,hcz21_7,hcz21_8,hcz21_9,hcz21_10⟩:=bc11 BK126.out;obtain ⟨hfz21_0,hfz21_1,hfz21_2,hfz21_3,hfz21_4,hfz21_5,hfz21_6,hfz21_7,hfz21_8,hfz21_9,hfz21_10⟩:=bf11 BK126.out))
      go_ret
      exact ⟨by first | rfl | (simp [errW_none,errW_some] <;> rfl) | (simp [*,errW_none,errW_some] <;> rfl),by repeat (first | (with_reducible first | exact HB.out | apply below_alloc | apply pw_below_drewN | apply below_drew1 | refine below_set ?_ GE126.out) | exact HB.out)⟩
     ·rw [if_neg c19] at H
      have c19b0 : (a0_5 == a0_4) = false:=beq_eq_false_iff_ne.mpr c19
      have c19b1 : (a0_5 != a0_4) = true:=bne_iff_ne.mpr c19
      obtain rfl:=Option.some.inj H
      go_enter Tryd.func21,Tryd.ntmps21
      go_wp2_with (first | ((with_reducible refine gate_dst (N:=2) rfl ?_);refine box_event ?hg (N:=2) ?hd (cs := #[.int .i64 a0_0, .int .i64 a0_1, .int .i64 a0_2, .int .i64 a0_3, .int .i64 a0_4, .int .i64 a0_5, .bool a0_6, .int .u32 a0_7, .bool a0_8, .int .i64 a0_9, .slice A0_10 l0_10.length c0_10]) (t:=31) ?hr ?_;(case hd => rfl);(case hg => rfl);(case hr => first | (go_simp;done) | (go_simp;rfl));intro gb126 hg w22 hbox hb;have n0_:=Aside0.mk (below_step (by repeat (first | (with_reducible first | exact HB.out | apply below_alloc | apply pw_below_drewN | apply below_drew1) | exact HB.out)) hb);have n1_:=Aside0.mk (hbox);have n2_:=Aside0.mk ((by rw [hg];exact (below_size (by repeat (first | (with_reducible first | exact HB.out | apply below_alloc | apply pw_below_drewN | apply below_drew1) | exact HB.out))) : w.heap.size ≤ gb126));have n3_:=Aside0.mk ((by rw [hg];exact (below_size (by repeat (first | (with_reducible first | exact HB.out | apply below_alloc | apply pw_below_drewN | apply below_drew1) | exact HB.out))) : w.heap.size ≤ gb126));clear HB;have HB:=n0_;have BK126:=n1_;have GW126:=n2_;have GE126:=n3_;clear n0_ n1_ n2_ n3_;clear hb hbox hg;obtain ⟨hcz23_0,hcz23_1,hcz23_2,hcz23_3,hcz23_4,hcz23_5,hcz23_6,hcz23_7,hcz23_8,hcz23_9,hcz23_10⟩:=bc11 BK126.out;obtain ⟨hfz23_0,hfz23_1,hfz23_2,hfz23_3,hfz23_4,hfz23_5,hfz23_6,hfz23_7,hfz23_8,hfz23_9,hfz23_10⟩:=bf11 BK126.out))
      go_ret
      exact ⟨by first | rfl | (simp [errW_none,errW_some] <;> rfl) | (simp [*,errW_none,errW_some] <;> rfl),by repeat (first | (with_reducible first | exact HB.out | apply below_alloc | apply pw_below_drewN | apply below_drew1 | refine below_set ?_ GE126.out) | exact HB.out)⟩
   ·rw [if_neg c15] at H
    have c15b0 : (a0_0 == 13) = false:=beq_eq_false_iff_ne.mpr c15
    have c15b1 : (a0_0 != 13) = true:=bne_iff_ne.mpr c15
    by_cases c24 : a0_0 = 14
    ·rw [if_pos c24] at H
     have c24b0 : (a0_0 == 14) = true:=beq_iff_eq.mpr c24
     have c24b1 : (a0_0 != 14) = false:=bne_eq_false_iff_eq.mpr c24
     clear c24
     have HC25:=Aside0.mk H
     clear H
     go_enter Tryd.func21,Tryd.ntmps21
     go_upto_region 14 with (first | ((with_reducible refine gate_dst (N:=2) rfl ?_);refine box_event ?hg (N:=2) ?hd (cs := #[.int .i64 a0_0, .int .i64 a0_1, .int .i64 a0_2, .int .i64 a0_3, .int .i64 a0_4, .int .i64 a0_5, .bool a0_6, .int .u32 a0_7, .bool a0_8, .int .i64 a0_9, .slice A0_10 l0_10.length c0_10]) (t:=31) ?hr ?_;(case hd => rfl);(case hg => rfl);(case hr => first | (go_simp;done) | (go_simp;rfl));intro gb126 hg w26 hbox hb;have n0_:=Aside0.mk (below_step (by repeat (first | (with_reducible first | exact HB.out | apply below_alloc | apply pw_below_drewN | apply below_drew1) | exact HB.out)) hb);have n1_:=Aside0.mk (hbox);have n2_:=Aside0.mk ((by rw [hg];exact (below_size (by repeat (first | (with_reducible first | exact HB.out | apply below_alloc | apply pw_below_drewN | apply below_drew1) | exact HB.out))) : w.heap.size ≤ gb126));have n3_:=Aside0.mk ((by rw [hg];exact (below_size (by repeat (first | (with_reducible first | exact HB.out | apply below_alloc | apply pw_below_drewN | apply below_drew1) | exact HB.out))) : w.heap.size ≤ gb126));clear HB;have HB:=n0_;have BK126:=n1_;have GW126:=n2_;have GE126:=n3_;clear n0_ n1_ n2_ n3_;clear hb hbox hg;obtain ⟨hcz27_0,hcz27_1,hcz27_2,hcz27_3,hcz27_4,hcz27_5,hcz27_6,hcz27_7,hcz27_8,hcz27_9,hcz27_10⟩:=bc11 BK126.out;obtain ⟨hfz27_0,hfz27_1,hfz27_2,hfz27_3,hfz27_4,hfz27_5,hfz27_6,hfz27_7,hfz27_8,hfz27_9,hfz27_10⟩:=bf11 BK126.out))
     (try simp only [Act.put,List.setIfInBounds_toArray,List.set_cons_zero,List.set_cons_succ])
     go_cut [32] (fun v32 wc => ∃ (kq : Nat) (x32_24 : Bool),v32 = .bool x32_24 ∧ Aside0 (spec_l2verdict.j0 kq a1 x32_24 a0_0 a0_1 a0_2 a0_3 a0_4 a0_5 a0_6 a0_7 a0_8 a0_9 l0_10 = some r) ∧ Aside0 (kq ≤ k) ∧ Aside0 (wc.heap[gb126]? = some (.cells #[.int .i64 a0_0, .int .i64 a0_1, .int .i64 a0_2, .int .i64 a0_3, .int .i64 a0_4, .int .i64 a0_5, .bool a0_6, .int .u32 a0_7, .bool a0_8, .int .i64 a0_9,(.slice A0_10 l0_10.length c0_10)] 31 (0,0))) ∧ Aside0 (Below w.heap.size w wc))
     case first =>
      have H:=HC25.out
      clear HC25
      by_cases c28 : a1 = 0
      ·rw [if_pos c28] at H
       have c28b0 : (a1 == 0) = true:=beq_iff_eq.mpr c28
       have c28b1 : (a1 != 0) = false:=bne_eq_false_iff_eq.mpr c28
       clear c28
       (first | rw [c28b0] | (simp only [i64_w,i32_w];rw [c28b0]) | skip)
       have H':=Aside0.mk H
       clear H
       obtain ⟨hcz29_0,hcz29_1,hcz29_2,hcz29_3,hcz29_4,hcz29_5,hcz29_6,hcz29_7,hcz29_8,hcz29_9,hcz29_10⟩:=bc11 BK126.out
       obtain ⟨hfz29_0,hfz29_1,hfz29_2,hfz29_3,hfz29_4,hfz29_5,hfz29_6,hfz29_7,hfz29_8,hfz29_9,hfz29_10⟩:=bf11 BK126.out
       go_wp2
       go_meet
       case rel => exact ⟨_,(decide (a0_1 > 1)),(by first | rfl | (simp;done) | (simp [*];done)),H',⟨by first | omega | exact Nat.le_refl _⟩,⟨by (with_reducible repeat (first | refine blk_drewN ?_ _ | refine blk_drew ?_ | refine blk_alloc ?_ _));exact BK126.out⟩,⟨by repeat (first | (with_reducible first | exact HB.out | apply below_alloc | apply pw_below_drewN | apply below_drew1 | refine below_set ?_ GE126.out) | exact HB.out)⟩⟩
      ·rw [if_neg c28] at H
       have c28b0 : (a1 == 0) = false:=beq_eq_false_iff_ne.mpr c28
       have c28b1 : (a1 != 0) = true:=bne_iff_ne.mpr c28
       (first | rw [c28b0] | (simp only [i64_w,i32_w];rw [c28b0]) | skip)
       have H':=Aside0.mk H
       clear H
       go_wp2
       go_meet
       case rel => exact ⟨_,(false),(by first | rfl | (simp;done) | (simp [*];done)),H',⟨by first | omega | exact Nat.le_refl _⟩,⟨by (with_reducible repeat (first | refine blk_drewN ?_ _ | refine blk_drew ?_ | refine blk_alloc ?_ _));exact BK126.out⟩,⟨by repeat (first | (with_reducible first | exact HB.out | apply below_alloc | apply pw_below_drewN | apply below_drew1 | refine below_set ?_ GE126.out) | exact HB.out)⟩⟩
     case rest =>
      clear HC25
      try clear c1
      try clear c2
      try clear p2
      try clear c3
      try clear c3b0
      try clear c3b1
      try clear c4
      try clear c4b0
      try clear c4b1
      try clear c9
      try clear c9b0
      try clear c9b1
      try clear c10
      try clear c10b0
      try clear c10b1
      try clear c15
      try clear c15b0
      try clear c15b1
      try clear c16
      try clear c16b0
      try clear c16b1
      try clear c19
      try clear c19b0
      try clear c19b1
      try clear c21
      try clear c24
      try clear c24b0
      try clear c24b1
      try clear c28
      try clear c28b0
      try clear c28b1
      try clear hcz12_0
      try clear hcz12_1
      try clear hcz12_10
      try clear hcz12_2
      try clear hcz12_3
      try clear hcz12_4
      try clear hcz12_5
      try clear hcz12_6
      try clear hcz12_7
      try clear hcz12_8
      try clear hcz12_9
      try clear hcz14_0
      try clear hcz14_1
      try clear hcz14_10
      try clear hcz14_2
      try clear hcz14_3
      try clear hcz14_4
      try clear hcz14_5
      try clear hcz14_6
      try clear hcz14_7
      try clear hcz14_8
      try clear hcz14_9
      try clear hcz18_0
      try clear hcz18_1
      try clear hcz18_10
      try clear hcz18_2
      try clear hcz18_3
      try clear hcz18_4
      try clear hcz18_5
      try clear hcz18_6
      try clear hcz18_7
      try clear hcz18_8
      try clear hcz18_9
      try clear hcz21_0
      try clear hcz21_1
      try clear hcz21_10
      try clear hcz21_2
      try clear hcz21_3
      try clear hcz21_4
      try clear hcz21_5
      try clear hcz21_6
      try clear hcz21_7
      try clear hcz21_8
      try clear hcz21_9
      try clear hcz23_0
      try clear hcz23_1
      try clear hcz23_10
      try clear hcz23_2
      try clear hcz23_3
      try clear hcz23_4
      try clear hcz23_5
      try clear hcz23_6
      try clear hcz23_7
      try clear hcz23_8
      try clear hcz23_9
      try clear hcz27_0
      try clear hcz27_1
      try clear hcz27_10
      try clear hcz27_2
      try clear hcz27_3
      try clear hcz27_4
      try clear hcz27_5
      try clear hcz27_6
      try clear hcz27_7
      try clear hcz27_8
      try clear hcz27_9
      try clear hcz29_0
      try clear hcz29_1
      try clear hcz29_10
      try clear hcz29_2
      try clear hcz29_3
      try clear hcz29_4
      try clear hcz29_5
      try clear hcz29_6
      try clear hcz29_7
      try clear hcz29_8
      try clear hcz29_9
      try clear hcz6_0
      try clear hcz6_1
      try clear hcz6_10
      try clear hcz6_2
      try clear hcz6_3
      try clear hcz6_4
      try clear hcz6_5
      try clear hcz6_6
      try clear hcz6_7
      try clear hcz6_8
      try clear hcz6_9
      try clear hcz8_0
      try clear hcz8_1
      try clear hcz8_10
      try clear hcz8_2
      try clear hcz8_3
      try clear hcz8_4
      try clear hcz8_5
      try clear hcz8_6
      try clear hcz8_7
      try clear hcz8_8
      try clear hcz8_9
      try clear hfz12_0
      try clear hfz12_1
      try clear hfz12_10
      try clear hfz12_2
      try clear hfz12_3
      try clear hfz12_4
      try clear hfz12_5
      try clear hfz12_6
      try clear hfz12_7
      try clear hfz12_8
      try clear hfz12_9
      try clear hfz14_0
      try clear hfz14_1
      try clear hfz14_10
      try clear hfz14_2
      try clear hfz14_3
      try clear hfz14_4
      try clear hfz14_5
      try clear hfz14_6
      try clear hfz14_7
      try clear hfz14_8
      try clear hfz14_9
      try clear hfz18_0
      try clear hfz18_1
      try clear hfz18_10
      try clear hfz18_2
      try clear hfz18_3
      try clear hfz18_4
      try clear hfz18_5
      try clear hfz18_6
      try clear hfz18_7
      try clear hfz18_8
      try clear hfz18_9
      try clear hfz21_0
      try clear hfz21_1
      try clear hfz21_10
      try clear hfz21_2
      try clear hfz21_3
      try clear hfz21_4
      try clear hfz21_5
      try clear hfz21_6
      try clear hfz21_7
      try clear hfz21_8
      try clear hfz21_9
      try clear hfz23_0
      try clear hfz23_1
      try clear hfz23_10
      try clear hfz23_2
      try clear hfz23_3
      try clear hfz23_4
      try clear hfz23_5
      try clear hfz23_6
      try clear hfz23_7
      try clear hfz23_8
      try clear hfz23_9
      try clear hfz27_0
      try clear hfz27_1
      try clear hfz27_10
      try clear hfz27_2
      try clear hfz27_3
      try clear hfz27_4
      try clear hfz27_5
      try clear hfz27_6
      try clear hfz27_7
      try clear hfz27_8
      try clear hfz27_9
      try clear hfz29_0
      try clear hfz29_1
      try clear hfz29_10
      try clear hfz29_2
      try clear hfz29_3
      try clear hfz29_4
      try clear hfz29_5
      try clear hfz29_6
      try clear hfz29_7
      try clear hfz29_8
      try clear hfz29_9
      try clear hfz6_0
      try clear hfz6_1
      try clear hfz6_10
      try clear hfz6_2
      try clear hfz6_3
      try clear hfz6_4
      try clear hfz6_5
      try clear hfz6_6
      try clear hfz6_7
      try clear hfz6_8
      try clear hfz6_9
      try clear hfz8_0
      try clear hfz8_1
      try clear hfz8_10
      try clear hfz8_2
      try clear hfz8_3
      try clear hfz8_4
      try clear hfz8_5
      try clear hfz8_6
      try clear hfz8_7
      try clear hfz8_8
      try clear hfz8_9
      obtain ⟨kq,x32_24,rfl,HA,HJ24,BK126,HB⟩:=hcut
      cases kq with
      | zero => exact absurd HA.out (by simp [spec_l2verdict.j0])
      | succ kj24 =>
       have H:=HA.out
       clear HA
       simp only [spec_l2verdict.j0] at H
       by_cases c30 : x32_24 = true
       ·subst c30
        have H1 : (some 4) = some r:=by rw [if_pos rfl] at H;exact H
        clear H
        have H:=H1
        clear H1
        obtain rfl:=Option.some.inj H
        go_wp2
        go_ret
        exact ⟨by first | rfl | (simp [errW_none,errW_some] <;> rfl) | (simp [*,errW_none,errW_some] <;> rfl),by repeat (first | (with_reducible first | exact HB.out | apply below_alloc | apply pw_below_drewN | apply below_drew1 | refine below_set ?_ GE126.out) | exact HB.out)⟩
       ·replace c30:=Bool.eq_false_iff.mpr c30
        subst c30
        have H1 : (if a1 = 0 then (some 6) else (if a0_1 = 2 then (some 1) else (if a0_1 = 1 then (some 2) else (some 0)))) = some r:=by rw [if_neg (show ¬ (false = true) by decide)] at H;exact H
        clear H
        have H:=H1
        clear H1
        by_cases c31 : a1 = 0
        ·rw [if_pos c31] at H
         have c31b0 : (a1 == 0) = true:=beq_iff_eq.mpr c31
         have c31b1 : (a1 != 0) = false:=bne_eq_false_iff_eq.mpr c31
         clear c31
         obtain rfl:=Option.some.inj H
         go_wp2
         go_ret
         exact ⟨by first | rfl | (simp [errW_none,errW_some] <;> rfl) | (simp [*,errW_none,errW_some] <;> rfl),by repeat (first | (with_reducible first | exact HB.out | apply below_alloc | apply pw_below_drewN | apply below_drew1 | refine below_set ?_ GE126.out) | exact HB.out)⟩
        ·rw [if_neg c31] at H
         have c31b0 : (a1 == 0) = false:=beq_eq_false_iff_ne.mpr c31
         have c31b1 : (a1 != 0) = true:=bne_iff_ne.mpr c31
         by_cases c32 : a0_1 = 2
         ·rw [if_pos c32] at H
          have c32b0 : (a0_1 == 2) = true:=beq_iff_eq.mpr c32
          have c32b1 : (a0_1 != 2) = false:=bne_eq_false_iff_eq.mpr c32
          clear c32
          obtain rfl:=Option.some.inj H
          obtain ⟨hcz33_0,hcz33_1,hcz33_2,hcz33_3,hcz33_4,hcz33_5,hcz33_6,hcz33_7,hcz33_8,hcz33_9,hcz33_10⟩:=bc11 BK126.out
          obtain ⟨hfz33_0,hfz33_1,hfz33_2,hfz33_3,hfz33_4,hfz33_5,hfz33_6,hfz33_7,hfz33_8,hfz33_9,hfz33_10⟩:=bf11 BK126.out
          go_wp2
          go_ret
          exact ⟨by first | rfl | (simp [errW_none,errW_some] <;> rfl) | (simp [*,errW_none,errW_some] <;> rfl),by repeat (first | (with_reducible first | exact HB.out | apply below_alloc | apply pw_below_drewN | apply below_drew1 | refine below_set ?_ GE126.out) | exact HB.out)⟩
         ·rw [if_neg c32] at H
          have c32b0 : (a0_1 == 2) = false:=beq_eq_false_iff_ne.mpr c32
          have c32b1 : (a0_1 != 2) = true:=bne_iff_ne.mpr c32
          by_cases c34 : a0_1 = 1
          ·rw [if_pos c34] at H
           have c34b0 : (a0_1 == 1) = true:=beq_iff_eq.mpr c34
           have c34b1 : (a0_1 != 1) = false:=bne_eq_false_iff_eq.mpr c34
           clear c34
           obtain rfl:=Option.some.inj H
           obtain ⟨hcz35_0,hcz35_1,hcz35_2,hcz35_3,hcz35_4,hcz35_5,hcz35_6,hcz35_7,hcz35_8,hcz35_9,hcz35_10⟩:=bc11 BK126.out
           obtain ⟨hfz35_0,hfz35_1,hfz35_2,hfz35_3,hfz35_4,hfz35_5,hfz35_6,hfz35_7,hfz35_8,hfz35_9,hfz35_10⟩:=bf11 BK126.out
           go_wp2
           go_ret
           exact ⟨by first | rfl | (simp [errW_none,errW_some] <;> rfl) | (simp [*,errW_none,errW_some] <;> rfl),by repeat (first | (with_reducible first | exact HB.out | apply below_alloc | apply pw_below_drewN | apply below_drew1 | refine below_set ?_ GE126.out) | exact HB.out)⟩
          ·rw [if_neg c34] at H
           have c34b0 : (a0_1 == 1) = false:=beq_eq_false_iff_ne.mpr c34
           have c34b1 : (a0_1 != 1) = true:=bne_iff_ne.mpr c34
           obtain rfl:=Option.some.inj H
           obtain ⟨hcz36_0,hcz36_1,hcz36_2,hcz36_3,hcz36_4,hcz36_5,hcz36_6,hcz36_7,hcz36_8,hcz36_9,hcz36_10⟩:=bc11 BK126.out
           obtain ⟨hfz36_0,hfz36_1,hfz36_2,hfz36_3,hfz36_4,hfz36_5,hfz36_6,hfz36_7,hfz36_8,hfz36_9,hfz36_10⟩:=bf11 BK126.out
           go_wp2
           go_ret
           exact ⟨by first | rfl | (simp [errW_none,errW_some] <;> rfl) | (simp [*,errW_none,errW_some] <;> rfl),by repeat (first | (with_reducible first | exact HB.out | apply below_alloc | apply pw_below_drewN | apply below_drew1 | refine below_set ?_ GE126.out) | exact HB.out)⟩
    ·rw [if_neg c24] at H
     have c24b0 : (a0_0 == 14) = false:=beq_eq_false_iff_ne.mpr c24
     have c24b1 : (a0_0 != 14) = true:=bne_iff_ne.mpr c24
     obtain rfl:=Option.some.inj H
     go_enter Tryd.func21,Tryd.ntmps21
     go_wp2_with (first | ((with_reducible refine gate_dst (N:=2) rfl ?_);refine box_event ?hg (N:=2) ?hd (cs := #[.int .i64 a0_0, .int .i64 a0_1, .int .i64 a0_2, .int .i64 a0_3, .int .i64 a0_4, .int .i64 a0_5, .bool a0_6, .int .u32 a0_7, .bool a0_8, .int .i64 a0_9, .slice A0_10 l0_10.length c0_10]) (t:=31) ?hr ?_;(case hd => rfl);(case hg => rfl);(case hr => first | (go_simp;done) | (go_simp;rfl));intro gb126 hg w37 hbox hb;have n0_:=Aside0.mk (below_step (by repeat (first | (with_reducible first | exact HB.out | apply below_alloc | apply pw_below_drewN | apply below_drew1) | exact HB.out)) hb);have n1_:=Aside0.mk (hbox);have n2_:=Aside0.mk ((by rw [hg];exact (below_size (by repeat (first | (with_reducible first | exact HB.out | apply below_alloc | apply pw_below_drewN | apply below_drew1) | exact HB.out))) : w.heap.size ≤ gb126));have n3_:=Aside0.mk ((by rw [hg];exact (below_size (by repeat (first | (with_reducible first | exact HB.out | apply below_alloc | apply pw_below_drewN | apply below_drew1) | exact HB.out))) : w.heap.size ≤ gb126));clear HB;have HB:=n0_;have BK126:=n1_;have GW126:=n2_;have GE126:=n3_;clear n0_ n1_ n2_ n3_;clear hb hbox hg;obtain ⟨hcz38_0,hcz38_1,hcz38_2,hcz38_3,hcz38_4,hcz38_5,hcz38_6,hcz38_7,hcz38_8,hcz38_9,hcz38_10⟩:=bc11 BK126.out;obtain ⟨hfz38_0,hfz38_1,hfz38_2,hfz38_3,hfz38_4,hfz38_5,hfz38_6,hfz38_7,hfz38_8,hfz38_9,hfz38_10⟩:=bf11 BK126.out))
     go_ret
     exact ⟨by first | rfl | (simp [errW_none,errW_some] <;> rfl) | (simp [*,errW_none,errW_some] <;> rfl),by repeat (first | (with_reducible first | exact HB.out | apply below_alloc | apply pw_below_drewN | apply below_drew1 | refine below_set ?_ GE126.out) | exact HB.out)⟩
end Go.Proofs.YtdoclpgciadjaaaDoor.P

namespace Go.Proofs.YtdoclpgciadjaaaDoor.P
open Go.RowKit Go.Proofs.YtdoclpgciadjaaaDoorW.PrintWords Go.Proofs.YtdoclpgciadjaaaDoorW.PrintLast Go.Proofs.YtdoclpgciadjaaaDoorW.PrintMore
set_option linter.unusedVariables false
set_option linter.unusedSimpArgs false
def spec_l2crc.f (a0 : Int) (a1 : Int) : Option (Int):=if (Go.bits .xor .i64 (wrap64 (Int.tdiv a0 16384)) a1) = 1 then (some (Go.bits .xor .i64 (Int.tmod (wrap64 (a0 * 2)) 32768) 17817)) else (some (Int.tmod (wrap64 (a0 * 2)) 32768))
set_option maxHeartbeats 8000000 in
set_option maxRecDepth 100000 in
theorem spec_l2crc.calls (a0 : Int) (a1 : Int) (r : Int) (w : World) (h : spec_l2crc.f a0 a1 = some r) :
  Calls Tryd.prog 22 #[.int .i64 a0, .int .i64 a1] w fun e w' => e = .returned (.int .i64 r) ∧ Drawn0 w w':=by
 have H : (if (Go.bits .xor .i64 (wrap64 (Int.tdiv a0 16384)) a1) = 1 then (some (Go.bits .xor .i64 (Int.tmod (wrap64 (a0 * 2)) 32768) 17817)) else (some (Int.tmod (wrap64 (a0 * 2)) 32768))) = some r:=h
 clear h
 by_cases c3 : (Go.bits .xor .i64 (wrap64 (Int.tdiv a0 16384)) a1) = 1
 ·rw [if_pos c3] at H
  have c3b0 : ((Go.bits .xor .i64 (wrap64 (Int.tdiv a0 16384)) a1) == 1) = true:=beq_iff_eq.mpr c3
  have c3b1 : ((Go.bits .xor .i64 (wrap64 (Int.tdiv a0 16384)) a1) != 1) = false:=bne_eq_false_iff_eq.mpr c3
  clear c3
  obtain rfl:=Option.some.inj H
  go_enter Tryd.func22,Tryd.ntmps22
  go_wp2
  go_ret
  exact ⟨by first | rfl | (simp;done) | (simp [*];done),by repeat (first | exact Drawn0.refl _ | apply Drawn0.step)⟩
 ·rw [if_neg c3] at H
  have c3b0 : ((Go.bits .xor .i64 (wrap64 (Int.tdiv a0 16384)) a1) == 1) = false:=beq_eq_false_iff_ne.mpr c3
  have c3b1 : ((Go.bits .xor .i64 (wrap64 (Int.tdiv a0 16384)) a1) != 1) = true:=bne_iff_ne.mpr c3
  obtain rfl:=Option.some.inj H
  go_enter Tryd.func22,Tryd.ntmps22
  go_wp2
  go_ret
  exact ⟨by first | rfl | (simp;done) | (simp [*];done),by repeat (first | exact Drawn0.refl _ | apply Drawn0.step)⟩
end Go.Proofs.YtdoclpgciadjaaaDoor.P

namespace Go.Proofs.YtdoclpgciadjaaaDoor.P
open Go.RowKit Go.Proofs.YtdoclpgciadjaaaDoorW.PrintWords Go.Proofs.YtdoclpgciadjaaaDoorW.PrintLast Go.Proofs.YtdoclpgciadjaaaDoorW.PrintMore
set_option linter.unusedVariables false
set_option linter.unusedSimpArgs false
def spec_l2after.j0 : Nat → Int → Bool → Bool → Int → Bool → Int → List Int → Option (Int)
 | 0,_,_,_,_,_,_,_ => none
 | k + 1,x0,x11,x128000,x128001,x128002,x128003,x128004 => if x11 = true then (some 7) else (if x0 = 8 then (if x128002 = true then (some 10) else (if x128003 = 0 then (some 10) else (some (wrap64 (x0 + 1))))) else (some (wrap64 (x0 + 1))))
def spec_l2after.f (k : Nat) (a0 : Int) (a1_0 : Bool) (a1_1 : Int) (a1_2 : Bool) (a1_3 : Int) (l1_4 : List Int) : Option (Int):=if a0 = 4 then (spec_l2after.j0 k a0 (!a1_0) a1_0 a1_1 a1_2 a1_3 l1_4) else (spec_l2after.j0 k a0 false a1_0 a1_1 a1_2 a1_3 l1_4)
set_option maxHeartbeats 8000000 in
set_option maxRecDepth 100000 in
theorem spec_l2after.calls (k : Nat) (a0 : Int) (a1_0 : Bool) (a1_1 : Int) (a1_2 : Bool) (a1_3 : Int) (A1_4 : Option Addr) (c1_4 : Nat) (l1_4 : List Int) (r : Int) (w : World) (hr1_4 : Kd.C (Kd.int .u8) w A1_4 l1_4.length l1_4) (hc1_4 : l1_4.length ≤ c1_4) (h : spec_l2after.f k a0 a1_0 a1_1 a1_2 a1_3 l1_4 = some r) :
  Calls Tryd.prog 25 #[.int .i64 a0, .agg #[.bool a1_0, .int .u32 a1_1, .bool a1_2, .int .i64 a1_3, .slice A1_4 l1_4.length c1_4]] w fun e w' => e = .returned (.int .i64 r) ∧ Below w.heap.size w w':=by
 have hu29:=Tryd.underlying29
 have HR1_4:=Aside0.mk hr1_4
 have HC1_4:=Aside0.mk hc1_4
 clear hr1_4 hc1_4
 have HB:=Aside0.mk (Below.refl w.heap.size w)
 have H : (if a0 = 4 then (spec_l2after.j0 k a0 (!a1_0) a1_0 a1_1 a1_2 a1_3 l1_4) else (spec_l2after.j0 k a0 false a1_0 a1_1 a1_2 a1_3 l1_4)) = some r:=h
 clear h
 have HC3:=Aside0.mk H
 clear H
 go_enter Tryd.func25,Tryd.ntmps25
 go_upto_region 1 with (first | ((with_reducible refine gate_dst (N:=3) rfl ?_);refine box_event ?hg (N:=3) ?hd (cs := #[.bool a1_0, .int .u32 a1_1, .bool a1_2, .int .i64 a1_3, .slice A1_4 l1_4.length c1_4]) (t:=29) ?hr ?_;(case hd => rfl);(case hg => rfl);(case hr => first | (go_simp;done) | (go_simp;rfl));intro gb127 hg w4 hbox hb;have n0_:=Aside0.mk (below_step (by repeat (first | (with_reducible first | exact HB.out | apply below_alloc | apply pw_below_drewN | apply below_drew1) | exact HB.out)) hb);have n1_:=Aside0.mk (hbox);have n2_:=Aside0.mk ((by rw [hg];exact (below_size (by repeat (first | (with_reducible first | exact HB.out | apply below_alloc | apply pw_below_drewN | apply below_drew1) | exact HB.out))) : w.heap.size ≤ gb127));have n3_:=Aside0.mk ((by rw [hg];exact (below_size (by repeat (first | (with_reducible first | exact HB.out | apply below_alloc | apply pw_below_drewN | apply below_drew1) | exact HB.out))) : w.heap.size ≤ gb127));clear HB;have HB:=n0_;have BK127:=n1_;have GW127:=n2_;have GE127:=n3_;clear n0_ n1_ n2_ n3_;clear hb hbox hg))
 (try simp only [Act.put,List.setIfInBounds_toArray,List.set_cons_zero,List.set_cons_succ])
 go_cut [11] (fun v11 wc => ∃ (kq : Nat) (x11_2 : Bool),v11 = .bool x11_2 ∧ Aside0 (spec_l2after.j0 kq a0 x11_2 a1_0 a1_1 a1_2 a1_3 l1_4 = some r) ∧ Aside0 (kq ≤ k) ∧ Aside0 (wc.heap[gb127]? = some (.cells #[.bool a1_0, .int .u32 a1_1, .bool a1_2, .int .i64 a1_3,(.slice A1_4 l1_4.length c1_4)] 29 (0,0))) ∧ Aside0 (Below w.heap.size w wc))
 case first =>
  have H:=HC3.out
  clear HC3
  by_cases c5 : a0 = 4
  ·rw [if_pos c5] at H
   have c5b0 : (a0 == 4) = true:=beq_iff_eq.mpr c5
   have c5b1 : (a0 != 4) = false:=bne_eq_false_iff_eq.mpr c5
   clear c5
   (first | rw [c5b0] | (simp only [i64_w,i32_w];rw [c5b0]) | skip)
   have H':=Aside0.mk H
   clear H
   obtain ⟨hcz6_0,hcz6_1,hcz6_2,hcz6_3,hcz6_4⟩:=bc5 BK127.out
   obtain ⟨hfz6_0,hfz6_1,hfz6_2,hfz6_3,hfz6_4⟩:=bf5 BK127.out
   go_wp2
   go_meet
   case rel => exact ⟨_,(!a1_0),(by first | rfl | (simp;done) | (simp [*];done)),H',⟨by first | omega | exact Nat.le_refl _⟩,⟨by (with_reducible repeat (first | refine blk_drewN ?_ _ | refine blk_drew ?_ | refine blk_alloc ?_ _));exact BK127.out⟩,⟨by repeat (first | (with_reducible first | exact HB.out | apply below_alloc | apply pw_below_drewN | apply below_drew1 | refine below_set ?_ GE127.out) | exact HB.out)⟩⟩
  ·rw [if_neg c5] at H
   have c5b0 : (a0 == 4) = false:=beq_eq_false_iff_ne.mpr c5
   have c5b1 : (a0 != 4) = true:=bne_iff_ne.mpr c5
   (first | rw [c5b0] | (simp only [i64_w,i32_w];rw [c5b0]) | skip)
   have H':=Aside0.mk H
   clear H
   go_wp2
   go_meet
   case rel => exact ⟨_,(false),(by first | rfl | (simp;done) | (simp [*];done)),H',⟨by first | omega | exact Nat.le_refl _⟩,⟨by (with_reducible repeat (first | refine blk_drewN ?_ _ | refine blk_drew ?_ | refine blk_alloc ?_ _));exact BK127.out⟩,⟨by repeat (first | (with_reducible first | exact HB.out | apply below_alloc | apply pw_below_drewN | apply below_drew1 | refine below_set ?_ GE127.out) | exact HB.out)⟩⟩
 case rest =>
  clear HC3
  try clear c1
  try clear c2
  try clear p2
  try clear c5
  try clear c5b0
  try clear c5b1
  try clear hcz6_0
  try clear hcz6_1
  try clear hcz6_2
  try clear hcz6_3
  try clear hcz6_4
  try clear hfz6_0
  try clear hfz6_1
  try clear hfz6_2
  try clear hfz6_3
  try clear hfz6_4
  obtain ⟨kq,x11_2,rfl,HA,HJ2,BK127,HB⟩:=hcut
  cases kq with
  | zero => exact absurd HA.out (by simp [spec_l2after.j0])
  | succ kj2 =>
   have H:=HA.out
   clear HA
   simp only [spec_l2after.j0] at H
   by_cases c7 : x11_2 = true
   ·subst c7
    have H1 : (some 7) = some r:=by rw [if_pos rfl] at H;exact H
    clear H
    have H:=H1
    clear H1
    obtain rfl:=Option.some.inj H
    go_wp2
    go_ret
    exact ⟨by first | rfl | (simp [errW_none,errW_some] <;> rfl) | (simp [*,errW_none,errW_some] <;> rfl),by repeat (first | (with_reducible first | exact HB.out | apply below_alloc | apply pw_below_drewN | apply below_drew1 | refine below_set ?_ GE127.out) | exact HB.out)⟩
   ·replace c7:=Bool.eq_false_iff.mpr c7
    subst c7
    have H1 : (if a0 = 8 then (if a1_2 = true then (some 10) else (if a1_3 = 0 then (some 10) else (some (wrap64 (a0 + 1))))) else (some (wrap64 (a0 + 1)))) = some r:=by rw [if_neg (show ¬ (false = true) by decide)] at H;exact H
    clear H
    have H:=H1
    clear H1
    by_cases c8 : a0 = 8
    ·rw [if_pos c8] at H
     have c8b0 : (a0 == 8) = true:=beq_iff_eq.mpr c8
     have c8b1 : (a0 != 8) = false:=bne_eq_false_iff_eq.mpr c8
     clear c8
     by_cases c9 : a1_2 = true
     ·subst c9
      have H1 : (some 10) = some r:=by rw [if_pos rfl] at H;exact H
      clear H
      have H:=H1
      clear H1
      obtain rfl:=Option.some.inj H
      obtain ⟨hcz10_0,hcz10_1,hcz10_2,hcz10_3,hcz10_4⟩:=bc5 BK127.out
      obtain ⟨hfz10_0,hfz10_1,hfz10_2,hfz10_3,hfz10_4⟩:=bf5 BK127.out
      go_wp2
      go_ret
      exact ⟨by first | rfl | (simp [errW_none,errW_some] <;> rfl) | (simp [*,errW_none,errW_some] <;> rfl),by repeat (first | (with_reducible first | exact HB.out | apply below_alloc | apply pw_below_drewN | apply below_drew1 | refine below_set ?_ GE127.out) | exact HB.out)⟩
     ·replace c9:=Bool.eq_false_iff.mpr c9
      subst c9
      have H1 : (if a1_3 = 0 then (some 10) else (some (wrap64 (a0 + 1)))) = some r:=by rw [if_neg (show ¬ (false = true) by decide)] at H;exact H
      clear H
      have H:=H1
      clear H1
      by_cases c11 : a1_3 = 0
      ·rw [if_pos c11] at H
       have c11b0 : (a1_3 == 0) = true:=beq_iff_eq.mpr c11
       have c11b1 : (a1_3 != 0) = false:=bne_eq_false_iff_eq.mpr c11
       clear c11
       obtain rfl:=Option.some.inj H
       obtain ⟨hcz12_0,hcz12_1,hcz12_2,hcz12_3,hcz12_4⟩:=bc5 BK127.out
       obtain ⟨hfz12_0,hfz12_1,hfz12_2,hfz12_3,hfz12_4⟩:=bf5 BK127.out
       go_wp2
       go_ret
       exact ⟨by first | rfl | (simp [errW_none,errW_some] <;> rfl) | (simp [*,errW_none,errW_some] <;> rfl),by repeat (first | (with_reducible first | exact HB.out | apply below_alloc | apply pw_below_drewN | apply below_drew1 | refine below_set ?_ GE127.out) | exact HB.out)⟩
      ·rw [if_neg c11] at H
       have c11b0 : (a1_3 == 0) = false:=beq_eq_false_iff_ne.mpr c11
       have c11b1 : (a1_3 != 0) = true:=bne_iff_ne.mpr c11
       obtain rfl:=Option.some.inj H
       obtain ⟨hcz13_0,hcz13_1,hcz13_2,hcz13_3,hcz13_4⟩:=bc5 BK127.out
       obtain ⟨hfz13_0,hfz13_1,hfz13_2,hfz13_3,hfz13_4⟩:=bf5 BK127.out
       go_wp2
       go_ret
       exact ⟨by first | rfl | (simp [errW_none,errW_some] <;> rfl) | (simp [*,errW_none,errW_some] <;> rfl),by repeat (first | (with_reducible first | exact HB.out | apply below_alloc | apply pw_below_drewN | apply below_drew1 | refine below_set ?_ GE127.out) | exact HB.out)⟩
    ·rw [if_neg c8] at H
     have c8b0 : (a0 == 8) = false:=beq_eq_false_iff_ne.mpr c8
     have c8b1 : (a0 != 8) = true:=bne_iff_ne.mpr c8
     obtain rfl:=Option.some.inj H
     go_wp2
     go_ret
     exact ⟨by first | rfl | (simp [errW_none,errW_some] <;> rfl) | (simp [*,errW_none,errW_some] <;> rfl),by repeat (first | (with_reducible first | exact HB.out | apply below_alloc | apply pw_below_drewN | apply below_drew1 | refine below_set ?_ GE127.out) | exact HB.out)⟩
end Go.Proofs.YtdoclpgciadjaaaDoor.P

namespace Go.Proofs.YtdoclpgciadjaaaDoor.P
open Go.RowKit Go.Proofs.YtdoclpgciadjaaaDoorW.PrintWords Go.Proofs.YtdoclpgciadjaaaDoorW.PrintLast Go.Proofs.YtdoclpgciadjaaaDoorW.PrintMore
set_option linter.unusedVariables false
set_option linter.unusedSimpArgs false
def spec_l1copyFrame.l0 : Nat → List Int → Int → Bool → Int → Bool → Int → List Int → Option (Bool × Int × Bool × Int × List Int)
 | 0,_,_,_,_,_,_,_ => none
 | k + 1,x3,x4,x109000,x109001,x109002,x109003,x109004 => if x4 < (x109004.length : Int) then (if 0 ≤ x4 then (if x3.length < 140737488355328 then (spec_l1copyFrame.l0 k (x3 ++ [rd x109004 x4]) (wrap64 (x4 + 1)) x109000 x109001 x109002 x109003 x109004) else (none)) else (none)) else (some (x109000,x109001,x109002,x109003,x3))
def spec_l1copyFrame.f (k : Nat) (a0_0 : Bool) (a0_1 : Int) (a0_2 : Bool) (a0_3 : Int) (l0_4 : List Int) : Option (Bool × Int × Bool × Int × List Int):=spec_l1copyFrame.l0 k (([] : List Int)) 0 a0_0 a0_1 a0_2 a0_3 l0_4
set_option maxHeartbeats 8000000 in
set_option maxRecDepth 100000 in
theorem spec_l1copyFrame.calls (k : Nat) (a0_0 : Bool) (a0_1 : Int) (a0_2 : Bool) (a0_3 : Int) (A0_4 : Option Addr) (c0_4 : Nat) (l0_4 : List Int) (r1 : Bool) (r2 : Int) (r3 : Bool) (r4 : Int) (r5 : List Int) (w : World) (hr0_4 : Kd.C (Kd.int .u8) w A0_4 l0_4.length l0_4) (hc0_4 : l0_4.length ≤ c0_4) (h : spec_l1copyFrame.f k a0_0 a0_1 a0_2 a0_3 l0_4 = some (r1,r2,r3,r4,r5)) :
  Calls Tryd.prog 49 #[.agg #[.bool a0_0, .int .u32 a0_1, .bool a0_2, .int .i64 a0_3, .slice A0_4 l0_4.length c0_4]] w fun e w' => ∃ v4_ : Value,e = .returned (.agg #[.bool r1, .int .u32 r2, .bool r3, .int .i64 r4,v4_]) ∧ Kd.R (Kd.int .u8) 5 w' w.heap.size (fun _ => True) v4_ r5 ∧ Below w.heap.size w w':=by
 have hu29:=Tryd.underlying29
 have HR0_4:=Aside0.mk hr0_4
 have HC0_4:=Aside0.mk hc0_4
 clear hr0_4 hc0_4
 have HB:=Aside0.mk (Below.refl w.heap.size w)
 have H : (spec_l1copyFrame.l0 k (([] : List Int)) 0 a0_0 a0_1 a0_2 a0_3 l0_4) = some (r1,r2,r3,r4,r5):=h
 clear h
 obtain ⟨y110,hy110⟩ : ∃ y_ : List Int,y_ = (([] : List Int)):=⟨_,rfl⟩
 replace H : (spec_l1copyFrame.l0 k y110 0 a0_0 a0_1 a0_2 a0_3 l0_4) = some (r1,r2,r3,r4,r5):=by first | (rw [hy110];with_reducible exact H) | (have H2_:=(Option.bind_some _ _).symm.trans H;rw [hy110];with_reducible exact H2_) | (have H2_:=(Option.bind_some _ _).symm.trans H;with_reducible exact H2_) | with_reducible exact H | (rw [hy110];exact H) | exact H
 have Ny110:=Aside0.mk hy110
 clear hy110
 have H':=Aside0.mk H
 clear H
 go_enter Tryd.func49,Tryd.ntmps49
 go_wp2_with (first | ((with_reducible refine gate_dst (N:=1) rfl ?_);refine box_event ?hg (N:=1) ?hd (cs := #[.bool a0_0, .int .u32 a0_1, .bool a0_2, .int .i64 a0_3, .slice A0_4 l0_4.length c0_4]) (t:=29) ?hr ?_;(case hd => rfl);(case hg => rfl);(case hr => first | (go_simp;done) | (go_simp;rfl));intro gb108 hg w2 hbox hb;have n0_:=Aside0.mk (below_step (by repeat (first | (with_reducible first | exact HB.out | apply below_alloc | apply pw_below_drewN | apply below_drew1) | exact HB.out)) hb);have n1_:=Aside0.mk (hbox);have n2_:=Aside0.mk ((by rw [hg];exact (below_size (by repeat (first | (with_reducible first | exact HB.out | apply below_alloc | apply pw_below_drewN | apply below_drew1) | exact HB.out))) : w.heap.size ≤ gb108));have n3_:=Aside0.mk ((by rw [hg];exact (below_size (by repeat (first | (with_reducible first | exact HB.out | apply below_alloc | apply pw_below_drewN | apply below_drew1) | exact HB.out))) : w.heap.size ≤ gb108));clear HB;have HB:=n0_;have BK108:=n1_;have GW108:=n2_;have GE108:=n3_;clear n0_ n1_ n2_ n3_;clear hb hbox hg) | ((with_reducible refine gate_dst (N:=2) rfl ?_);refine box_event ?hg (N:=2) ?hd (cs := #[.bool false, .int .u32 0, .bool false, .int .i64 0, .slice none 0 0]) (t:=29) ?hr ?_;(case hd => rfl);(case hg => rfl);(case hr => first | (go_simp;done) | (go_simp;rfl));intro gb109 hg w3 hbox hb;have n0_:=Aside0.mk (blk_below (g:=gb108) (o := .cells #[.bool a0_0, .int .u32 a0_1, .bool a0_2, .int .i64 a0_3, .slice A0_4 l0_4.length c0_4] 29 (0,0)) (by (with_reducible repeat (first | refine blk_drewN ?_ _ | refine blk_drew ?_ | refine blk_alloc ?_ _));exact BK108.out) hb);have n1_:=Aside0.mk (below_step (by repeat (first | (with_reducible first | exact HB.out | apply below_alloc | apply pw_below_drewN | apply below_drew1 | refine below_set ?_ GE108.out) | exact HB.out)) hb);have n2_:=Aside0.mk (hbox);have n3_:=Aside0.mk ((by rw [hg];exact (below_size (by repeat (first | (with_reducible first | exact HB.out | apply below_alloc | apply pw_below_drewN | apply below_drew1 | refine below_set ?_ GE108.out) | exact HB.out))) : w.heap.size ≤ gb109));have n4_:=Aside0.mk ((by rw [hg];exact (below_size (by repeat (first | (with_reducible first | exact HB.out | apply below_alloc | apply pw_below_drewN | apply below_drew1 | refine below_set ?_ GE108.out) | exact HB.out))) : w.heap.size ≤ gb109));have n5_:=Aside0.mk ((by rw [hg];exact Nat.ne_of_lt (blk_lt (g:=gb108) (o := .cells #[.bool a0_0, .int .u32 a0_1, .bool a0_2, .int .i64 a0_3, .slice A0_4 l0_4.length c0_4] 29 (0,0)) (by (with_reducible repeat (first | refine blk_drewN ?_ _ | refine blk_drew ?_ | refine blk_alloc ?_ _));exact BK108.out)) : gb108 ≠ gb109));have n6_:=Aside0.mk ((by rw [hg];exact Nat.ne_of_gt (blk_lt (g:=gb108) (o := .cells #[.bool a0_0, .int .u32 a0_1, .bool a0_2, .int .i64 a0_3, .slice A0_4 l0_4.length c0_4] 29 (0,0)) (by (with_reducible repeat (first | refine blk_drewN ?_ _ | refine blk_drew ?_ | refine blk_alloc ?_ _));exact BK108.out)) : gb109 ≠ gb108));clear BK108;clear HB;have BK108:=n0_;have HB:=n1_;have BK109:=n2_;have GW109:=n3_;have GE109:=n4_;have NB108_109:=n5_;have NB109_108:=n6_;clear n0_ n1_ n2_ n3_ n4_ n5_ n6_;clear hb hbox hg) | ((with_reducible refine gate_dst (N:=5) rfl ?_);refine Kd.R_lit (Kd.int .u8) _ 5 ?hg (N:=5) ?hd (xs:=([] : List Int)) (inner := []) (ok:=fun _ => True) (okp:=fun _ => True) ?hr ?hp (fun _ hk => hk) trivial (Below.refl _ _) (Nat.le_refl _) (by simp) ?_;(case hd => rfl);(case hg => rfl);(case hr => first | (go_simp;done) | (go_simp;rfl));(case hp => exact (Reps.none _ _));intro v111 w4 ho5 hb hg_ hnew_;clear hg_ hnew_;(first | rw [← Ny110.out] at ho5 | (simp only [Int.reduceToNat] at ho5;rw [← Ny110.out] at ho5));have n0_:=Aside0.mk (Kd.R_lower ho5 (below_size (by repeat (first | (with_reducible first | exact HB.out | apply below_alloc | apply pw_below_drewN | apply below_drew1 | refine below_set ?_ GE108.out | refine below_set ?_ GE109.out) | exact HB.out))));have n1_:=Aside0.mk (blk_below (g:=gb108) (o := .cells #[.bool a0_0, .int .u32 a0_1, .bool a0_2, .int .i64 a0_3, .slice A0_4 l0_4.length c0_4] 29 (0,0)) (by (with_reducible repeat (first | refine blk_drewN ?_ _ | refine blk_drew ?_ | refine blk_alloc ?_ _));exact BK108.out) hb);have n2_:=Aside0.mk (blk_below (g:=gb109) (o := .cells #[.bool false, .int .u32 0, .bool false, .int .i64 0, .slice none 0 0] 29 (0,0)) (by (with_reducible repeat (first | refine blk_drewN ?_ _ | refine blk_drew ?_ | refine blk_alloc ?_ _));exact BK109.out) hb);have n3_:=Aside0.mk (below_step (by repeat (first | (with_reducible first | exact HB.out | apply below_alloc | apply pw_below_drewN | apply below_drew1 | refine below_set ?_ GE108.out | refine below_set ?_ GE109.out) | exact HB.out)) hb);clear BK108;clear BK109;clear HB;have HO112:=n0_;have BK108:=n1_;have BK109:=n2_;have HB:=n3_;clear n0_ n1_ n2_ n3_;clear hb ho5))
 go_loopg [3,4] k (fun kq v3 v4 w' => ∃ (x3_1 : List Int) (x4_1 : Int),v4 = .int .i64 x4_1 ∧ Aside0 (spec_l1copyFrame.l0 kq x3_1 x4_1 a0_0 a0_1 a0_2 a0_3 l0_4 = some (r1,r2,r3,r4,r5)) ∧ Aside0 (kq ≤ k) ∧ Aside0 (Kd.R (Kd.int .u8) 5 w' w.heap.size (fun _ => True) v3 x3_1) ∧ Aside0 (w'.heap[gb108]? = some (.cells #[.bool a0_0, .int .u32 a0_1, .bool a0_2, .int .i64 a0_3,(.slice A0_4 l0_4.length c0_4)] 29 (0,0))) ∧ Aside0 (w'.heap[gb109]? = some (.cells #[.bool false, .int .u32 0, .bool false, .int .i64 0,(.slice none 0 0)] 29 (0,0))) ∧ Aside0 (Below w.heap.size w w'))
 case atStart => exact ⟨(y110),(0),(by first | rfl | (simp;done) | (simp [*];done)),H',⟨Nat.le_refl _⟩,⟨by (with_reducible repeat (first | apply Kd.R_alloc | apply Kd.R_drewN | apply Kd.R_drew));exact HO112.out⟩,⟨by (with_reducible repeat (first | refine blk_drewN ?_ _ | refine blk_drew ?_ | refine blk_alloc ?_ _));exact BK108.out⟩,⟨by (with_reducible repeat (first | refine blk_drewN ?_ _ | refine blk_drew ?_ | refine blk_alloc ?_ _));exact BK109.out⟩,⟨by repeat (first | (with_reducible first | exact HB.out | apply below_alloc | apply pw_below_drewN | apply below_drew1 | refine below_set ?_ GE108.out | refine below_set ?_ GE109.out) | exact HB.out)⟩⟩
 case round =>
  clear H'
  try clear p2
  try clear c4
  obtain ⟨x3_1,x4_1,rfl,HA,HK1,HO_3,BK108,BK109,HB⟩:=hrel
  cases gk with
  | zero => exact absurd HA.out (by simp [spec_l1copyFrame.l0])
  | succ k1 =>
   have H:=HA.out
   clear HA
   simp only [spec_l1copyFrame.l0] at H
   by_cases c6 : x4_1 < (l0_4.length : Int)
   ·rw [if_pos c6] at H
    have c6b0 : decide (x4_1 < (l0_4.length : Int)) = true:=decide_eq_true c6
    clear c6
    by_cases c7 : 0 ≤ x4_1
    ·rw [if_pos c7] at H
     have c7b0 : decide (0 ≤ x4_1) = true:=decide_eq_true c7
     clear c7
     by_cases c8 : x3_1.length < 140737488355328
     ·rw [if_pos c8] at H
      have LMc8:=Aside0.mk c8
      clear c8
      obtain ⟨y114,hy114⟩ : ∃ y_ : List Int,y_ = (x3_1 ++ [rd l0_4 x4_1]):=⟨_,rfl⟩
      replace H : (spec_l1copyFrame.l0 k1 y114 (wrap64 (x4_1 + 1)) a0_0 a0_1 a0_2 a0_3 l0_4) = some (r1,r2,r3,r4,r5):=by first | (rw [hy114];with_reducible exact H) | (have H2_:=(Option.bind_some _ _).symm.trans H;rw [hy114];with_reducible exact H2_) | (have H2_:=(Option.bind_some _ _).symm.trans H;with_reducible exact H2_) | with_reducible exact H | (rw [hy114];exact H) | exact H
      have Ny114:=Aside0.mk hy114
      clear hy114
      have H':=Aside0.mk H
      clear H
      have hnb9:=NB108_109.out
      have hnc9:=NB109_108.out
      obtain ⟨hcz10_0,hcz10_1,hcz10_2,hcz10_3,hcz10_4⟩:=bc5 BK108.out
      obtain ⟨hfz10_0,hfz10_1,hfz10_2,hfz10_3,hfz10_4⟩:=bf5 BK108.out
      have p113 : 0 ≤ (x4_1 : Int):=of_decide_eq_true (by first | (with_reducible assumption) | assumption)
      have q113 : x4_1 < (l0_4.length : Int):=of_decide_eq_true (by first | (with_reducible assumption) | assumption)
      obtain ⟨ad113,e113,hx113_0⟩:=Kd.at_int HR0_4.out x4_1 p113 q113
      cases e113
      replace hx113_0:=(HB.out.cell (World.block_lt_of_cell? w _ hx113_0)).trans hx113_0
      replace p113:=eq_true p113
      replace q113:=eq_true q113
      go_wp2_with (first | ((with_reducible refine gate_builtin (b := .append) (xs := #[.tmp 13, .tmp 19]) rfl ?_);at_builtin;refine Kd.R_append (Kd.int .u8) (w0:=w) w.heap.size rfl (.tmp 13) (.tmp 19) 23 5 (.int .u8 0) 1 rfl Tryd.underlying23 info5 rfl (by decide) (by omega) u3 x3_1 (rd l0_4 x4_1) [.int .u8 (rd l0_4 x4_1)] (fun _ => True) (fun _ => False) rfl rfl ?aP (fun _ hk => hk.elim) ?aF ?aO ?aB ?aS ?aL ?_;(case aP => exact rfl);(case aB => exact (by repeat (first | (with_reducible first | exact HB.out | apply below_alloc | apply pw_below_drewN | apply below_drew1 | refine below_set ?_ GE108.out | refine below_set ?_ GE109.out) | exact HB.out)));(case aF => exact (fun _ _ => trivial));(case aO => exact (by (with_reducible repeat (first | apply Kd.R_alloc | apply Kd.R_drewN | apply Kd.R_drew));exact HO_3.out));(case aS => exact (below_size (by repeat (first | (with_reducible first | exact HB.out | apply below_alloc | apply pw_below_drewN | apply below_drew1 | refine below_set ?_ GE108.out | refine below_set ?_ GE109.out) | exact HB.out))));(case aL => have:=LMc8.out;omega);intro v115 w11 ho hb hg hat;rw [← Ny114.out] at ho;have n0_:=Aside0.mk (blk_grown (g:=gb108) (o := .cells #[.bool a0_0, .int .u32 a0_1, .bool a0_2, .int .i64 a0_3, .slice (some ad113) l0_4.length c0_4] 29 (0,0)) (by (with_reducible repeat (first | refine blk_drewN ?_ _ | refine blk_drew ?_ | refine blk_alloc ?_ _));exact BK108.out) hg (Kd.R_ne HO_3.out BK108.out (by decide)));have n1_:=Aside0.mk (blk_grown (g:=gb109) (o := .cells #[.bool false, .int .u32 0, .bool false, .int .i64 0, .slice none 0 0] 29 (0,0)) (by (with_reducible repeat (first | refine blk_drewN ?_ _ | refine blk_drew ?_ | refine blk_alloc ?_ _));exact BK109.out) hg (Kd.R_ne HO_3.out BK109.out (by decide)));have n2_:=Aside0.mk (hb);have n3_:=Aside0.mk (ho);clear BK108;clear BK109;clear HB;clear HO_3;have BK108:=n0_;have BK109:=n1_;have HB:=n2_;have HO116:=n3_;clear n0_ n1_ n2_ n3_;clear ho hb hg hat))
      go_roundg k1
      case measure => have:=HK1.out;omega
      case rel => exact ⟨(y114),(wrap64 (x4_1 + 1)),(by first | rfl | (simp;done) | (simp [*];done)),H',⟨by have:=HK1.out;omega⟩,⟨by (with_reducible repeat (first | apply Kd.R_alloc | apply Kd.R_drewN | apply Kd.R_drew));exact HO116.out⟩,⟨by (with_reducible repeat (first | refine blk_drewN ?_ _ | refine blk_drew ?_ | refine blk_alloc ?_ _));exact BK108.out⟩,⟨by (with_reducible repeat (first | refine blk_drewN ?_ _ | refine blk_drew ?_ | refine blk_alloc ?_ _));exact BK109.out⟩,⟨by repeat (first | (with_reducible first | exact HB.out | apply below_alloc | apply pw_below_drewN | apply below_drew1 | refine below_set ?_ GE108.out | refine below_set ?_ GE109.out) | exact HB.out)⟩⟩
     ·rw [if_neg c8] at H
      exact absurd H (by simp)
    ·rw [if_neg c7] at H
     exact absurd H (by simp)
   ·rw [if_neg c6] at H
    have c6b0 : decide (x4_1 < (l0_4.length : Int)) = false:=decide_eq_false c6
    clear c6
    simp only [Option.some.injEq,Prod.mk.injEq] at H
    obtain ⟨rfl,rfl,rfl,rfl,rfl⟩:=H
    have hnb12:=NB108_109.out
    have hnc12:=NB109_108.out
    obtain ⟨hcz13_0,hcz13_1,hcz13_2,hcz13_3,hcz13_4⟩:=bc5 BK108.out
    obtain ⟨hfz13_0,hfz13_1,hfz13_2,hfz13_3,hfz13_4⟩:=bf5 BK108.out
    obtain ⟨Ao14,co14,eo14⟩:=Kd.R_slice HO_3.out
    subst eo14
    obtain ⟨hcz15_0,hcz15_1,hcz15_2,hcz15_3,hcz15_4⟩:=bc5 BK109.out
    obtain ⟨hfz15_0,hfz15_1,hfz15_2,hfz15_3,hfz15_4⟩:=bf5 BK109.out
    go_wp2
    refine bodyPost_ret (results_cell_row rfl _ _ gb109 29 #[.bool a0_0, .int .u32 a0_1, .bool a0_2, .int .i64 a0_3, .slice Ao14 x3_1.length co14] (0,0) _ rfl (by (with_reducible repeat (first | refine blk_drewN ?_ _ | refine blk_drew ?_ | refine blk_alloc ?_ _));refine blk_put (cs := #[.bool a0_0, .int .u32 a0_1, .bool a0_2, .int .i64 a0_3, .slice none 0 0]) ?_ 4 _ rfl;(with_reducible repeat (first | refine blk_drewN ?_ _ | refine blk_drew ?_ | refine blk_alloc ?_ _));refine blk_put (cs := #[.bool a0_0, .int .u32 a0_1, .bool a0_2, .int .i64 0, .slice none 0 0]) ?_ 3 _ rfl;(with_reducible repeat (first | refine blk_drewN ?_ _ | refine blk_drew ?_ | refine blk_alloc ?_ _));refine blk_put (cs := #[.bool a0_0, .int .u32 a0_1, .bool false, .int .i64 0, .slice none 0 0]) ?_ 2 _ rfl;(with_reducible repeat (first | refine blk_drewN ?_ _ | refine blk_drew ?_ | refine blk_alloc ?_ _));refine blk_put (cs := #[.bool a0_0, .int .u32 0, .bool false, .int .i64 0, .slice none 0 0]) ?_ 1 _ rfl;(with_reducible repeat (first | refine blk_drewN ?_ _ | refine blk_drew ?_ | refine blk_alloc ?_ _));refine blk_put (cs := #[.bool false, .int .u32 0, .bool false, .int .i64 0, .slice none 0 0]) ?_ 0 _ rfl;(with_reducible repeat (first | refine blk_drewN ?_ _ | refine blk_drew ?_ | refine blk_alloc ?_ _));exact BK109.out) Tryd.underlying29 rfl (by kernel_rfl)) rfl ?_
    exact ⟨_,by first | rfl | (simp [errW_none,errW_some] <;> rfl) | (simp [*,errW_none,errW_some] <;> rfl),by (with_reducible repeat (first | apply Kd.R_alloc | apply Kd.R_drewN | apply Kd.R_drew));exact Kd.R_mono (Kd.R_far (p:=⟨gb109,4,none⟩) (Kd.R_far (p:=⟨gb109,3,none⟩) (Kd.R_far (p:=⟨gb109,2,none⟩) (Kd.R_far (p:=⟨gb109,1,none⟩) (Kd.R_far (p:=⟨gb109,0,none⟩) (Kd.R_types HO_3.out BK109.out (by decide)) (fun _ hk => hk.2) (.bool a0_0)) (fun _ hk => hk.2) (.int .u32 a0_1)) (fun _ hk => hk.2) (.bool a0_2)) (fun _ hk => hk.2) (.int .i64 a0_3)) (fun _ hk => hk.2) (.slice Ao14 x3_1.length co14)) (fun _ hk => trivial),by repeat (first | (with_reducible first | exact HB.out | apply below_alloc | apply pw_below_drewN | apply below_drew1 | refine below_set ?_ GE108.out | refine below_set ?_ GE109.out) | exact HB.out)⟩
end Go.Proofs.YtdoclpgciadjaaaDoor.P

namespace Go.Proofs.YtdoclpgciadjaaaDoor.P
open Go.RowKit Go.Proofs.YtdoclpgciadjaaaDoorW.PrintWords Go.Proofs.YtdoclpgciadjaaaDoorW.PrintLast Go.Proofs.YtdoclpgciadjaaaDoorW.PrintMore
set_option linter.unusedVariables false
set_option linter.unusedSimpArgs false
def spec_l2copy.f (k : Nat) (a0_0 : Int) (a0_1 : Int) (a0_2 : Int) (a0_3 : Int) (a0_4 : Int) (a0_5 : Int) (a0_6 : Bool) (a0_7 : Int) (a0_8 : Bool) (a0_9 : Int) (l0_10 : List Int) : Option (Int × Int × Int × Int × Int × Int × Bool × Int × Bool × Int × List Int):=(spec_l1copyFrame.f k a0_6 a0_7 a0_8 a0_9 l0_10).bind fun bt119 => (some (a0_0,a0_1,a0_2,a0_3,a0_4,a0_5,bt119.1,bt119.2.1,bt119.2.2.1,bt119.2.2.2.1,bt119.2.2.2.2))
set_option maxHeartbeats 8000000 in
set_option maxRecDepth 100000 in
theorem spec_l2copy.calls (k : Nat) (a0_0 : Int) (a0_1 : Int) (a0_2 : Int) (a0_3 : Int) (a0_4 : Int) (a0_5 : Int) (a0_6 : Bool) (a0_7 : Int) (a0_8 : Bool) (a0_9 : Int) (A0_10 : Option Addr) (c0_10 : Nat) (l0_10 : List Int) (r1 : Int) (r2 : Int) (r3 : Int) (r4 : Int) (r5 : Int) (r6 : Int) (r7 : Bool) (r8 : Int) (r9 : Bool) (r10 : Int) (r11 : List Int) (w : World) (hr0_10 : Kd.C (Kd.int .u8) w A0_10 l0_10.length l0_10) (hc0_10 : l0_10.length ≤ c0_10) (h : spec_l2copy.f k a0_0 a0_1 a0_2 a0_3 a0_4 a0_5 a0_6 a0_7 a0_8 a0_9 l0_10 = some (r1,r2,r3,r4,r5,r6,r7,r8,r9,r10,r11)) :
  Calls Tryd.prog 20 #[.agg #[.int .i64 a0_0, .int .i64 a0_1, .int .i64 a0_2, .int .i64 a0_3, .int .i64 a0_4, .int .i64 a0_5, .bool a0_6, .int .u32 a0_7, .bool a0_8, .int .i64 a0_9, .slice A0_10 l0_10.length c0_10]] w fun e w' => ∃ v10_ : Value,e = .returned (.agg #[.int .i64 r1, .int .i64 r2, .int .i64 r3, .int .i64 r4, .int .i64 r5, .int .i64 r6, .bool r7, .int .u32 r8, .bool r9, .int .i64 r10,v10_]) ∧ Kd.R (Kd.int .u8) 5 w' w.heap.size (fun _ => True) v10_ r11 ∧ Below w.heap.size w w':=by
 have hu31:=Tryd.underlying31
 have hu29:=Tryd.underlying29
 have HR0_10:=Aside0.mk hr0_10
 have HC0_10:=Aside0.mk hc0_10
 clear hr0_10 hc0_10
 have HB:=Aside0.mk (Below.refl w.heap.size w)
 have H : ((spec_l1copyFrame.f k a0_6 a0_7 a0_8 a0_9 l0_10).bind fun bt119 => (some (a0_0,a0_1,a0_2,a0_3,a0_4,a0_5,bt119.1,bt119.2.1,bt119.2.2.1,bt119.2.2.2.1,bt119.2.2.2.2))) = some (r1,r2,r3,r4,r5,r6,r7,r8,r9,r10,r11):=h
 clear h
 replace H:=Option.bind_eq_some_iff.mp H
 obtain ⟨⟨t119,t120,t121,t122,t123⟩,A20,H⟩:=H
 replace H : (some (a0_0,a0_1,a0_2,a0_3,a0_4,a0_5,t119,t120,t121,t122,t123)) = some (r1,r2,r3,r4,r5,r6,r7,r8,r9,r10,r11):=H
 have A2:=Aside0.mk A20
 clear A20
 simp only [Option.some.injEq,Prod.mk.injEq] at H
 obtain ⟨rfl,rfl,rfl,rfl,rfl,rfl,rfl,rfl,rfl,rfl,rfl⟩:=H
 go_enter Tryd.func20,Tryd.ntmps20
 go_wp2_with (first | ((with_reducible refine gate_dst (N:=1) rfl ?_);refine box_event ?hg (N:=1) ?hd (cs := #[.int .i64 a0_0, .int .i64 a0_1, .int .i64 a0_2, .int .i64 a0_3, .int .i64 a0_4, .int .i64 a0_5, .bool a0_6, .int .u32 a0_7, .bool a0_8, .int .i64 a0_9, .slice A0_10 l0_10.length c0_10]) (t:=31) ?hr ?_;(case hd => rfl);(case hg => rfl);(case hr => first | (go_simp;done) | (go_simp;rfl));intro gb117 hg w3 hbox hb;have n0_:=Aside0.mk (below_step (by repeat (first | (with_reducible first | exact HB.out | apply below_alloc | apply pw_below_drewN | apply below_drew1) | exact HB.out)) hb);have n1_:=Aside0.mk (hbox);have n2_:=Aside0.mk ((by rw [hg];exact (below_size (by repeat (first | (with_reducible first | exact HB.out | apply below_alloc | apply pw_below_drewN | apply below_drew1) | exact HB.out))) : w.heap.size ≤ gb117));have n3_:=Aside0.mk ((by rw [hg];exact (below_size (by repeat (first | (with_reducible first | exact HB.out | apply below_alloc | apply pw_below_drewN | apply below_drew1) | exact HB.out))) : w.heap.size ≤ gb117));clear HB;have HB:=n0_;have BK117:=n1_;have GW117:=n2_;have GE117:=n3_;clear n0_ n1_ n2_ n3_;clear hb hbox hg) | ((with_reducible refine gate_dst (N:=2) rfl ?_);refine box_event ?hg (N:=2) ?hd (cs := #[.int .i64 0, .int .i64 0, .int .i64 0, .int .i64 0, .int .i64 0, .int .i64 0, .bool false, .int .u32 0, .bool false, .int .i64 0, .slice none 0 0]) (t:=31) ?hr ?_;(case hd => rfl);(case hg => rfl);(case hr => first | (go_simp;done) | (go_simp;rfl));intro gb118 hg w4 hbox hb;have n0_:=Aside0.mk (blk_below (g:=gb117) (o := .cells #[.int .i64 a0_0, .int .i64 a0_1, .int .i64 a0_2, .int .i64 a0_3, .int .i64 a0_4, .int .i64 a0_5, .bool a0_6, .int .u32 a0_7, .bool a0_8, .int .i64 a0_9, .slice A0_10 l0_10.length c0_10] 31 (0,0)) (by (with_reducible repeat (first | refine blk_drewN ?_ _ | refine blk_drew ?_ | refine blk_alloc ?_ _));exact BK117.out) hb);have n1_:=Aside0.mk (below_step (by repeat (first | (with_reducible first | exact HB.out | apply below_alloc | apply pw_below_drewN | apply below_drew1 | refine below_set ?_ GE117.out) | exact HB.out)) hb);have n2_:=Aside0.mk (hbox);have n3_:=Aside0.mk ((by rw [hg];exact (below_size (by repeat (first | (with_reducible first | exact HB.out | apply below_alloc | apply pw_below_drewN | apply below_drew1 | refine below_set ?_ GE117.out) | exact HB.out))) : w.heap.size ≤ gb118));have n4_:=Aside0.mk ((by rw [hg];exact (below_size (by repeat (first | (with_reducible first | exact HB.out | apply below_alloc | apply pw_below_drewN | apply below_drew1 | refine below_set ?_ GE117.out) | exact HB.out))) : w.heap.size ≤ gb118));have n5_:=Aside0.mk ((by rw [hg];exact Nat.ne_of_lt (blk_lt (g:=gb117) (o := .cells #[.int .i64 a0_0, .int .i64 a0_1, .int .i64 a0_2, .int .i64 a0_3, .int .i64 a0_4, .int .i64 a0_5, .bool a0_6, .int .u32 a0_7, .bool a0_8, .int .i64 a0_9, .slice A0_10 l0_10.length c0_10] 31 (0,0)) (by (with_reducible repeat (first | refine blk_drewN ?_ _ | refine blk_drew ?_ | refine blk_alloc ?_ _));exact BK117.out)) : gb117 ≠ gb118));have n6_:=Aside0.mk ((by rw [hg];exact Nat.ne_of_gt (blk_lt (g:=gb117) (o := .cells #[.int .i64 a0_0, .int .i64 a0_1, .int .i64 a0_2, .int .i64 a0_3, .int .i64 a0_4, .int .i64 a0_5, .bool a0_6, .int .u32 a0_7, .bool a0_8, .int .i64 a0_9, .slice A0_10 l0_10.length c0_10] 31 (0,0)) (by (with_reducible repeat (first | refine blk_drewN ?_ _ | refine blk_drew ?_ | refine blk_alloc ?_ _));exact BK117.out)) : gb118 ≠ gb117));clear BK117;clear HB;have BK117:=n0_;have HB:=n1_;have BK118:=n2_;have GW118:=n3_;have GE118:=n4_;have NB117_118:=n5_;have NB118_117:=n6_;clear n0_ n1_ n2_ n3_ n4_ n5_ n6_;clear hb hbox hg;have hnb5:=NB117_118.out;have hnc5:=NB118_117.out;obtain ⟨hcz6_0,hcz6_1,hcz6_2,hcz6_3,hcz6_4,hcz6_5,hcz6_6,hcz6_7,hcz6_8,hcz6_9,hcz6_10⟩:=bc11 BK117.out;obtain ⟨hfz6_0,hfz6_1,hfz6_2,hfz6_3,hfz6_4,hfz6_5,hfz6_6,hfz6_7,hfz6_8,hfz6_9,hfz6_10⟩:=bf11 BK117.out) | ((with_reducible refine gate_callee (f:=49) rfl ?_);refine goesL_ (some 5) rfl rfl Tryd.func49 (by kernel_rfl) rfl #[.agg #[.bool a0_6, .int .u32 a0_7, .bool a0_8, .int .i64 a0_9, .slice A0_10 l0_10.length c0_10]] rfl (by (try simp only [List.map_toArray,List.map_cons,List.map_nil]);first | done | rfl | (simp only [List.length_drop,List.length_take];rfl)) ?_;(with_reducible refine (spec_l1copyFrame.calls k a0_6 a0_7 a0_8 a0_9 _ _ l0_10 t119 t120 t121 t122 t123 _ ?side1 ?side2 A2.out).mono ?_);(case side1 => repeat (first | exact (Kd.C_below HR0_10.out HB.out) | (with_reducible refine Kd.C_alloc ?_ _) | (with_reducible refine Kd.C_drewN ?_ _) | (with_reducible refine Kd.C_drew ?_)));(case side2 => exact HC0_10.out);rintro e w7 ⟨v124,rfl,ho0,hb⟩;refine ⟨_,rfl, ?_⟩;have n0_:=Aside0.mk (Kd.R_lower ho0 (below_size (by repeat (first | (with_reducible first | exact HB.out | apply below_alloc | apply pw_below_drewN | apply below_drew1 | refine below_set ?_ GE117.out | refine below_set ?_ GE118.out) | exact HB.out))));have n1_:=Aside0.mk (blk_below (g:=gb117) (o := .cells #[.int .i64 a0_0, .int .i64 a0_1, .int .i64 a0_2, .int .i64 a0_3, .int .i64 a0_4, .int .i64 a0_5, .bool a0_6, .int .u32 a0_7, .bool a0_8, .int .i64 a0_9, .slice A0_10 l0_10.length c0_10] 31 (0,0)) (by (with_reducible repeat (first | refine blk_drewN ?_ _ | refine blk_drew ?_ | refine blk_alloc ?_ _));exact BK117.out) hb);have n2_:=Aside0.mk (blk_below (g:=gb118) (o := .cells #[.int .i64 0, .int .i64 0, .int .i64 0, .int .i64 0, .int .i64 0, .int .i64 0, .bool false, .int .u32 0, .bool false, .int .i64 0, .slice none 0 0] 31 (0,0)) (by (with_reducible repeat (first | refine blk_drewN ?_ _ | refine blk_drew ?_ | refine blk_alloc ?_ _));exact BK118.out) hb);have n3_:=Aside0.mk (below_step (by repeat (first | (with_reducible first | exact HB.out | apply below_alloc | apply pw_below_drewN | apply below_drew1 | refine below_set ?_ GE117.out | refine below_set ?_ GE118.out) | exact HB.out)) hb);clear BK117;clear BK118;clear HB;have HO125:=n0_;have BK117:=n1_;have BK118:=n2_;have HB:=n3_;clear n0_ n1_ n2_ n3_;(try clear hb);(try clear hb2);(try clear hk);(try clear hi);(try clear ho0);obtain ⟨hcz8_0,hcz8_1,hcz8_2,hcz8_3,hcz8_4,hcz8_5,hcz8_6,hcz8_7,hcz8_8,hcz8_9,hcz8_10⟩:=bc11 BK117.out;obtain ⟨hfz8_0,hfz8_1,hfz8_2,hfz8_3,hfz8_4,hfz8_5,hfz8_6,hfz8_7,hfz8_8,hfz8_9,hfz8_10⟩:=bf11 BK117.out;obtain ⟨Ao9,co9,eo9⟩:=Kd.R_slice HO125.out;subst eo9;obtain ⟨hcz10_0,hcz10_1,hcz10_2,hcz10_3,hcz10_4,hcz10_5,hcz10_6,hcz10_7,hcz10_8,hcz10_9,hcz10_10⟩:=bc11 BK118.out;obtain ⟨hfz10_0,hfz10_1,hfz10_2,hfz10_3,hfz10_4,hfz10_5,hfz10_6,hfz10_7,hfz10_8,hfz10_9,hfz10_10⟩:=bf11 BK118.out))
 refine bodyPost_ret (results_cell_row rfl _ _ gb118 31 #[.int .i64 a0_0, .int .i64 a0_1, .int .i64 a0_2, .int .i64 a0_3, .int .i64 a0_4, .int .i64 a0_5, .bool t119, .int .u32 t120, .bool t121, .int .i64 t122, .slice Ao9 t123.length co9] (0,0) _ rfl (by (with_reducible repeat (first | refine blk_drewN ?_ _ | refine blk_drew ?_ | refine blk_alloc ?_ _));refine blk_put (cs := #[.int .i64 a0_0, .int .i64 a0_1, .int .i64 a0_2, .int .i64 a0_3, .int .i64 a0_4, .int .i64 a0_5, .bool t119, .int .u32 t120, .bool t121, .int .i64 t122, .slice none 0 0]) ?_ 10 _ rfl;(with_reducible repeat (first | refine blk_drewN ?_ _ | refine blk_drew ?_ | refine blk_alloc ?_ _));refine blk_put (cs := #[.int .i64 a0_0, .int .i64 a0_1, .int .i64 a0_2, .int .i64 a0_3, .int .i64 a0_4, .int .i64 a0_5, .bool t119, .int .u32 t120, .bool t121, .int .i64 0, .slice none 0 0]) ?_ 9 _ rfl;(with_reducible repeat (first | refine blk_drewN ?_ _ | refine blk_drew ?_ | refine blk_alloc ?_ _));refine blk_put (cs := #[.int .i64 a0_0, .int .i64 a0_1, .int .i64 a0_2, .int .i64 a0_3, .int .i64 a0_4, .int .i64 a0_5, .bool t119, .int .u32 t120, .bool false, .int .i64 0, .slice none 0 0]) ?_ 8 _ rfl;(with_reducible repeat (first | refine blk_drewN ?_ _ | refine blk_drew ?_ | refine blk_alloc ?_ _));refine blk_put (cs := #[.int .i64 a0_0, .int .i64 a0_1, .int .i64 a0_2, .int .i64 a0_3, .int .i64 a0_4, .int .i64 a0_5, .bool t119, .int .u32 0, .bool false, .int .i64 0, .slice none 0 0]) ?_ 7 _ rfl;(with_reducible repeat (first | refine blk_drewN ?_ _ | refine blk_drew ?_ | refine blk_alloc ?_ _));refine blk_put (cs := #[.int .i64 a0_0, .int .i64 a0_1, .int .i64 a0_2, .int .i64 a0_3, .int .i64 a0_4, .int .i64 a0_5, .bool false, .int .u32 0, .bool false, .int .i64 0, .slice none 0 0]) ?_ 6 _ rfl;(with_reducible repeat (first | refine blk_drewN ?_ _ | refine blk_drew ?_ | refine blk_alloc ?_ _));refine blk_put (cs := #[.int .i64 a0_0, .int .i64 a0_1, .int .i64 a0_2, .int .i64 a0_3, .int .i64 a0_4, .int .i64 0, .bool false, .int .u32 0, .bool false, .int .i64 0, .slice none 0 0]) ?_ 5 _ rfl;(with_reducible repeat (first | refine blk_drewN ?_ _ | refine blk_drew ?_ | refine blk_alloc ?_ _));refine blk_put (cs := #[.int .i64 a0_0, .int .i64 a0_1, .int .i64 a0_2, .int .i64 a0_3, .int .i64 0, .int .i64 0, .bool false, .int .u32 0, .bool false, .int .i64 0, .slice none 0 0]) ?_ 4 _ rfl;(with_reducible repeat (first | refine blk_drewN ?_ _ | refine blk_drew ?_ | refine blk_alloc ?_ _));refine blk_put (cs := #[.int .i64 a0_0, .int .i64 a0_1, .int .i64 a0_2, .int .i64 0, .int .i64 0, .int .i64 0, .bool false, .int .u32 0, .bool false, .int .i64 0, .slice none 0 0]) ?_ 3 _ rfl;(with_reducible repeat (first | refine blk_drewN ?_ _ | refine blk_drew ?_ | refine blk_alloc ?_ _));refine blk_put (cs := #[.int .i64 a0_0, .int .i64 a0_1, .int .i64 0, .int .i64 0, .int .i64 0, .int .i64 0, .bool false, .int .u32 0, .bool false, .int .i64 0, .slice none 0 0]) ?_ 2 _ rfl;(with_reducible repeat (first | refine blk_drewN ?_ _ | refine blk_drew ?_ | refine blk_alloc ?_ _));refine blk_put (cs := #[.int .i64 a0_0, .int .i64 0, .int .i64 0, .int .i64 0, .int .i64 0, .int .i64 0, .bool false, .int .u32 0, .bool false, .int .i64 0, .slice none 0 0]) ?_ 1 _ rfl;(with_reducible repeat (first | refine blk_drewN ?_ _ | refine blk_drew ?_ | refine blk_alloc ?_ _));refine blk_put (cs := #[.int .i64 0, .int .i64 0, .int .i64 0, .int .i64 0, .int .i64 0, .int .i64 0, .bool false, .int .u32 0, .bool false, .int .i64 0, .slice none 0 0]) ?_ 0 _ rfl;(with_reducible repeat (first | refine blk_drewN ?_ _ | refine blk_drew ?_ | refine blk_alloc ?_ _));refine blk_far ?_ NB118_117.out _;(with_reducible repeat (first | refine blk_drewN ?_ _ | refine blk_drew ?_ | refine blk_alloc ?_ _));refine blk_far ?_ NB118_117.out _;(with_reducible repeat (first | refine blk_drewN ?_ _ | refine blk_drew ?_ | refine blk_alloc ?_ _));refine blk_far ?_ NB118_117.out _;(with_reducible repeat (first | refine blk_drewN ?_ _ | refine blk_drew ?_ | refine blk_alloc ?_ _));refine blk_far ?_ NB118_117.out _;(with_reducible repeat (first | refine blk_drewN ?_ _ | refine blk_drew ?_ | refine blk_alloc ?_ _));refine blk_far ?_ NB118_117.out _;(with_reducible repeat (first | refine blk_drewN ?_ _ | refine blk_drew ?_ | refine blk_alloc ?_ _));exact BK118.out) Tryd.underlying31 rfl (by kernel_rfl)) rfl ?_
 exact ⟨_,by first | rfl | (simp [errW_none,errW_some] <;> rfl) | (simp [*,errW_none,errW_some] <;> rfl),by (with_reducible repeat (first | apply Kd.R_alloc | apply Kd.R_drewN | apply Kd.R_drew));exact Kd.R_mono (Kd.R_far (p:=⟨gb118,10,none⟩) (Kd.R_far (p:=⟨gb118,9,none⟩) (Kd.R_far (p:=⟨gb118,8,none⟩) (Kd.R_far (p:=⟨gb118,7,none⟩) (Kd.R_far (p:=⟨gb118,6,none⟩) (Kd.R_far (p:=⟨gb118,5,none⟩) (Kd.R_far (p:=⟨gb118,4,none⟩) (Kd.R_far (p:=⟨gb118,3,none⟩) (Kd.R_far (p:=⟨gb118,2,none⟩) (Kd.R_far (p:=⟨gb118,1,none⟩) (Kd.R_far (p:=⟨gb118,0,none⟩) (Kd.R_far (p:=⟨gb117,10,none⟩) (Kd.R_far (p:=⟨gb117,9,none⟩) (Kd.R_far (p:=⟨gb117,8,none⟩) (Kd.R_far (p:=⟨gb117,7,none⟩) (Kd.R_far (p:=⟨gb117,6,none⟩) (Kd.R_types (Kd.R_types HO125.out BK117.out (by decide)) BK118.out (by decide)) (fun _ hk => hk.1.2) (.bool t119)) (fun _ hk => hk.1.2) (.int .u32 t120)) (fun _ hk => hk.1.2) (.bool t121)) (fun _ hk => hk.1.2) (.int .i64 t122)) (fun _ hk => hk.1.2) (.slice Ao9 t123.length co9)) (fun _ hk => hk.2) (.int .i64 a0_0)) (fun _ hk => hk.2) (.int .i64 a0_1)) (fun _ hk => hk.2) (.int .i64 a0_2)) (fun _ hk => hk.2) (.int .i64 a0_3)) (fun _ hk => hk.2) (.int .i64 a0_4)) (fun _ hk => hk.2) (.int .i64 a0_5)) (fun _ hk => hk.2) (.bool t119)) (fun _ hk => hk.2) (.int .u32 t120)) (fun _ hk => hk.2) (.bool t121)) (fun _ hk => hk.2) (.int .i64 t122)) (fun _ hk => hk.2) (.slice Ao9 t123.length co9)) (fun _ hk => trivial),by repeat (first | (with_reducible first | exact HB.out | apply below_alloc | apply pw_below_drewN | apply below_drew1 | refine below_set ?_ GE117.out | refine below_set ?_ GE118.out) | exact HB.out)⟩
end Go.Proofs.YtdoclpgciadjaaaDoor.P
