/- Texts of the proof of FnExactBest, joined. -/
import Derived.Test.YtcaefabbcjlkdaaSFnExactBest22
import Derived.Test.YtcaefabbcjlkdaaSFnExactBest26
import Derived.Test.YtcaefabbcjlkdaaSFnExactBest24
import Derived.Test.YtcaefabbcjlkdaaSFnExactBest25
import Derived.Deep.RegionHeld
namespace Go.Proofs.Ytcaefabbcjlkdaa.P
open Go.RowKit Go.Proofs.YtcaefabbcjlkdaaW.PrintWords Go.Proofs.YtcaefabbcjlkdaaW.PrintLast Go.Proofs.YtcaefabbcjlkdaaW.PrintMore
set_option linter.unusedVariables false
set_option linter.unusedSimpArgs false
def impl_goodConfig.f (a0_0 : Int) (a0_1 : Int) (a0_2 : Int) (a0_3 : Int) : Option (Bool):=if a0_0 ≥ 1 then (if a0_0 ≤ 8 then (if a0_1 ≥ 1 then (if a0_1 ≤ 16 then (if a0_2 = 0 then (if a0_3 ≥ 1 then (some (decide (a0_3 ≤ 32))) else (some false)) else (if a0_2 = 1 then (if a0_3 ≥ 1 then (some (decide (a0_3 ≤ 32))) else (some false)) else (some false))) else (some false)) else (some false)) else (some false)) else (some false)
set_option maxHeartbeats 8000000 in
set_option maxRecDepth 100000 in
theorem impl_goodConfig.calls (a0_0 : Int) (a0_1 : Int) (a0_2 : Int) (a0_3 : Int) (r : Bool) (w : World) (h : impl_goodConfig.f a0_0 a0_1 a0_2 a0_3 = some r) :
  Calls Try.prog 61 #[.agg #[.int .i64 a0_0, .int .i64 a0_1, .int .i64 a0_2, .int .i64 a0_3]] w fun e w' => e = .returned (.bool r) ∧ Below w.heap.size w w':=by
 have hu26:=Try.underlying26
 have HB:=Aside0.mk (Below.refl w.heap.size w)
 have H : (if a0_0 ≥ 1 then (if a0_0 ≤ 8 then (if a0_1 ≥ 1 then (if a0_1 ≤ 16 then (if a0_2 = 0 then (if a0_3 ≥ 1 then (some (decide (a0_3 ≤ 32))) else (some false)) else (if a0_2 = 1 then (if a0_3 ≥ 1 then (some (decide (a0_3 ≤ 32))) else (some false)) else (some false))) else (some false)) else (some false)) else (some false)) else (some false)) = some r:=h
 clear h
 by_cases c2 : a0_0 ≥ 1
 ·rw [if_pos c2] at H
  have c2b0 : decide (1 ≤ a0_0) = true:=decide_eq_true c2
  clear c2
  by_cases c3 : a0_0 ≤ 8
  ·rw [if_pos c3] at H
   have c3b0 : decide (a0_0 ≤ 8) = true:=decide_eq_true c3
   clear c3
   by_cases c4 : a0_1 ≥ 1
   ·rw [if_pos c4] at H
    have c4b0 : decide (1 ≤ a0_1) = true:=decide_eq_true c4
    clear c4
    by_cases c5 : a0_1 ≤ 16
    ·rw [if_pos c5] at H
     have c5b0 : decide (a0_1 ≤ 16) = true:=decide_eq_true c5
     clear c5
     by_cases c6 : a0_2 = 0
     ·rw [if_pos c6] at H
      have c6b0 : (a0_2 == 0) = true:=beq_iff_eq.mpr c6
      have c6b1 : (a0_2 != 0) = false:=bne_eq_false_iff_eq.mpr c6
      clear c6
      by_cases c7 : a0_3 ≥ 1
      ·rw [if_pos c7] at H
       have c7b0 : decide (1 ≤ a0_3) = true:=decide_eq_true c7
       clear c7
       obtain rfl:=Option.some.inj H
       go_enter Try.func61,Try.ntmps61
       go_wp2_with (first | ((with_reducible refine gate_dst (N:=1) rfl ?_);refine box_event ?hg (N:=1) ?hd (cs := #[.int .i64 a0_0, .int .i64 a0_1, .int .i64 a0_2, .int .i64 a0_3]) (t:=26) ?hr ?_;(case hd => rfl);(case hg => rfl);(case hr => first | (go_simp;done) | (go_simp;rfl));intro gb101 hg w8 hbox hb;have n0_:=Aside0.mk (below_step (by repeat (first | (with_reducible first | exact HB.out | apply below_alloc | apply pw_below_drewN | apply below_drew1) | exact HB.out)) hb);have n1_:=Aside0.mk (hbox);have n2_:=Aside0.mk ((by rw [hg];exact (below_size (by repeat (first | (with_reducible first | exact HB.out | apply below_alloc | apply pw_below_drewN | apply below_drew1) | exact HB.out))) : w.heap.size ≤ gb101));have n3_:=Aside0.mk ((by rw [hg];exact (below_size (by repeat (first | (with_reducible first | exact HB.out | apply below_alloc | apply pw_below_drewN | apply below_drew1) | exact HB.out))) : w.heap.size ≤ gb101));clear HB;have HB:=n0_;have BK101:=n1_;have GW101:=n2_;have GE101:=n3_;clear n0_ n1_ n2_ n3_;clear hb hbox hg;have hcz9_0 : w8.cell? ⟨gb101,0,none⟩ = some (.int .i64 a0_0):=(blk_cell BK101.out 0).trans rfl;have hcz9_1 : w8.cell? ⟨gb101,1,none⟩ = some (.int .i64 a0_1):=(blk_cell BK101.out 1).trans rfl;have hcz9_2 : w8.cell? ⟨gb101,2,none⟩ = some (.int .i64 a0_2):=(blk_cell BK101.out 2).trans rfl;have hcz9_3 : w8.cell? ⟨gb101,3,none⟩ = some (.int .i64 a0_3):=(blk_cell BK101.out 3).trans rfl;have hfz9_0:=blk_frozen BK101.out 0;have hfz9_1:=blk_frozen BK101.out 1;have hfz9_2:=blk_frozen BK101.out 2;have hfz9_3:=blk_frozen BK101.out 3))
       go_ret
       exact ⟨by first | rfl | (simp [errW_none,errW_some] <;> rfl) | (simp [*,errW_none,errW_some] <;> rfl),by repeat (first | (with_reducible first | exact HB.out | apply below_alloc | apply pw_below_drewN | apply below_drew1 | refine below_set ?_ GE101.out) | exact HB.out)⟩
      ·rw [if_neg c7] at H
       have c7b0 : decide (1 ≤ a0_3) = false:=decide_eq_false c7
       clear c7
       obtain rfl:=Option.some.inj H
       go_enter Try.func61,Try.ntmps61
       go_wp2_with (first | ((with_reducible refine gate_dst (N:=1) rfl ?_);refine box_event ?hg (N:=1) ?hd (cs := #[.int .i64 a0_0, .int .i64 a0_1, .int .i64 a0_2, .int .i64 a0_3]) (t:=26) ?hr ?_;(case hd => rfl);(case hg => rfl);(case hr => first | (go_simp;done) | (go_simp;rfl));intro gb101 hg w10 hbox hb;have n0_:=Aside0.mk (below_step (by repeat (first | (with_reducible first | exact HB.out | apply below_alloc | apply pw_below_drewN | apply below_drew1) | exact HB.out)) hb);have n1_:=Aside0.mk (hbox);have n2_:=Aside0.mk ((by rw [hg];exact (below_size (by repeat (first | (with_reducible first | exact HB.out | apply below_alloc | apply pw_below_drewN | apply below_drew1) | exact HB.out))) : w.heap.size ≤ gb101));have n3_:=Aside0.mk ((by rw [hg];exact (below_size (by repeat (first | (with_reducible first | exact HB.out | apply below_alloc | apply pw_below_drewN | apply below_drew1) | exact HB.out))) : w.heap.size ≤ gb101));clear HB;have HB:=n0_;have BK101:=n1_;have GW101:=n2_;have GE101:=n3_;clear n0_ n1_ n2_ n3_;clear hb hbox hg;have hcz11_0 : w10.cell? ⟨gb101,0,none⟩ = some (.int .i64 a0_0):=(blk_cell BK101.out 0).trans rfl;have hcz11_1 : w10.cell? ⟨gb101,1,none⟩ = some (.int .i64 a0_1):=(blk_cell BK101.out 1).trans rfl;have hcz11_2 : w10.cell? ⟨gb101,2,none⟩ = some (.int .i64 a0_2):=(blk_cell BK101.out 2).trans rfl;have hcz11_3 : w10.cell? ⟨gb101,3,none⟩ = some (.int .i64 a0_3):=(blk_cell BK101.out 3).trans rfl;have hfz11_0:=blk_frozen BK101.out 0;have hfz11_1:=blk_frozen BK101.out 1;have hfz11_2:=blk_frozen BK101.out 2;have hfz11_3:=blk_frozen BK101.out 3))
       go_ret
       exact ⟨by first | rfl | (simp [errW_none,errW_some] <;> rfl) | (simp [*,errW_none,errW_some] <;> rfl),by repeat (first | (with_reducible first | exact HB.out | apply below_alloc | apply pw_below_drewN | apply below_drew1 | refine below_set ?_ GE101.out) | exact HB.out)⟩
     ·rw [if_neg c6] at H
      have c6b0 : (a0_2 == 0) = false:=beq_eq_false_iff_ne.mpr c6
      have c6b1 : (a0_2 != 0) = true:=bne_iff_ne.mpr c6
      by_cases c12 : a0_2 = 1
      ·rw [if_pos c12] at H
       have c12b0 : (a0_2 == 1) = true:=beq_iff_eq.mpr c12
       have c12b1 : (a0_2 != 1) = false:=bne_eq_false_iff_eq.mpr c12
       clear c12
       by_cases c13 : a0_3 ≥ 1
       ·rw [if_pos c13] at H
        have c13b0 : decide (1 ≤ a0_3) = true:=decide_eq_true c13
        clear c13
        obtain rfl:=Option.some.inj H
        go_enter Try.func61,Try.ntmps61
        go_wp2_with (first | ((with_reducible refine gate_dst (N:=1) rfl ?_);refine box_event ?hg (N:=1) ?hd (cs := #[.int .i64 a0_0, .int .i64 a0_1, .int .i64 a0_2, .int .i64 a0_3]) (t:=26) ?hr ?_;(case hd => rfl);(case hg => rfl);(case hr => first | (go_simp;done) | (go_simp;rfl));intro gb101 hg w14 hbox hb;have n0_:=Aside0.mk (below_step (by repeat (first | (with_reducible first | exact HB.out | apply below_alloc | apply pw_below_drewN | apply below_drew1) | exact HB.out)) hb);have n1_:=Aside0.mk (hbox);have n2_:=Aside0.mk ((by rw [hg];exact (below_size (by repeat (first | (with_reducible first | exact HB.out | apply below_alloc | apply pw_below_drewN | apply below_drew1) | exact HB.out))) : w.heap.size ≤ gb101));have n3_:=Aside0.mk ((by rw [hg];exact (below_size (by repeat (first | (with_reducible first | exact HB.out | apply below_alloc | apply pw_below_drewN | apply below_drew1) | exact HB.out))) : w.heap.size ≤ gb101));clear HB;have HB:=n0_;have BK101:=n1_;have GW101:=n2_;have GE101:=n3_;clear n0_ n1_ n2_ n3_;clear hb hbox hg;have hcz15_0 : w14.cell? ⟨gb101,0,none⟩ = some (.int .i64 a0_0):=(blk_cell BK101.out 0).trans rfl;have hcz15_1 : w14.cell? ⟨gb101,1,none⟩ = some (.int .i64 a0_1):=(blk_cell BK101.out 1).trans rfl;have hcz15_2 : w14.cell? ⟨gb101,2,none⟩ = some (.int .i64 a0_2):=(blk_cell BK101.out 2).trans rfl;have hcz15_3 : w14.cell? ⟨gb101,3,none⟩ = some (.int .i64 a0_3):=(blk_cell BK101.out 3).trans rfl;have hfz15_0:=blk_frozen BK101.out 0;have hfz15_1:=blk_frozen BK101.out 1;have hfz15_2:=blk_frozen BK101.out 2;have hfz15_3:=blk_frozen BK101.out 3))
        go_ret
        exact ⟨by first | rfl | (simp [errW_none,errW_some] <;> rfl) | (simp [*,errW_none,errW_some] <;> rfl),by repeat (first | (with_reducible first | exact HB.out | apply below_alloc | apply pw_below_drewN | apply below_drew1 | refine below_set ?_ GE101.out) | exact HB.out)⟩
       ·rw [if_neg c13] at H
        have c13b0 : decide (1 ≤ a0_3) = false:=decide_eq_false c13
        clear c13
        obtain rfl:=Option.some.inj H
        go_enter Try.func61,Try.ntmps61
        go_wp2_with (first | ((with_reducible refine gate_dst (N:=1) rfl ?_);refine box_event ?hg (N:=1) ?hd (cs := #[.int .i64 a0_0, .int .i64 a0_1, .int .i64 a0_2, .int .i64 a0_3]) (t:=26) ?hr ?_;(case hd => rfl);(case hg => rfl);(case hr => first | (go_simp;done) | (go_simp;rfl));intro gb101 hg w16 hbox hb;have n0_:=Aside0.mk (below_step (by repeat (first | (with_reducible first | exact HB.out | apply below_alloc | apply pw_below_drewN | apply below_drew1) | exact HB.out)) hb);have n1_:=Aside0.mk (hbox);have n2_:=Aside0.mk ((by rw [hg];exact (below_size (by repeat (first | (with_reducible first | exact HB.out | apply below_alloc | apply pw_below_drewN | apply below_drew1) | exact HB.out))) : w.heap.size ≤ gb101));have n3_:=Aside0.mk ((by rw [hg];exact (below_size (by repeat (first | (with_reducible first | exact HB.out | apply below_alloc | apply pw_below_drewN | apply below_drew1) | exact HB.out))) : w.heap.size ≤ gb101));clear HB;have HB:=n0_;have BK101:=n1_;have GW101:=n2_;have GE101:=n3_;clear n0_ n1_ n2_ n3_;clear hb hbox hg;have hcz17_0 : w16.cell? ⟨gb101,0,none⟩ = some (.int .i64 a0_0):=(blk_cell BK101.out 0).trans rfl;have hcz17_1 : w16.cell? ⟨gb101,1,none⟩ = some (.int .i64 a0_1):=(blk_cell BK101.out 1).trans rfl;have hcz17_2 : w16.cell? ⟨gb101,2,none⟩ = some (.int .i64 a0_2):=(blk_cell BK101.out 2).trans rfl;have hcz17_3 : w16.cell? ⟨gb101,3,none⟩ = some (.int .i64 a0_3):=(blk_cell BK101.out 3).trans rfl;have hfz17_0:=blk_frozen BK101.out 0;have hfz17_1:=blk_frozen BK101.out 1;have hfz17_2:=blk_frozen BK101.out 2;have hfz17_3:=blk_frozen BK101.out 3))
        go_ret
        exact ⟨by first | rfl | (simp [errW_none,errW_some] <;> rfl) | (simp [*,errW_none,errW_some] <;> rfl),by repeat (first | (with_reducible first | exact HB.out | apply below_alloc | apply pw_below_drewN | apply below_drew1 | refine below_set ?_ GE101.out) | exact HB.out)⟩
      ·rw [if_neg c12] at H
       have c12b0 : (a0_2 == 1) = false:=beq_eq_false_iff_ne.mpr c12
       have c12b1 : (a0_2 != 1) = true:=bne_iff_ne.mpr c12
       obtain rfl:=Option.some.inj H
       go_enter Try.func61,Try.ntmps61
       go_wp2_with (first | ((with_reducible refine gate_dst (N:=1) rfl ?_);refine box_event ?hg (N:=1) ?hd (cs := #[.int .i64 a0_0, .int .i64 a0_1, .int .i64 a0_2, .int .i64 a0_3]) (t:=26) ?hr ?_;(case hd => rfl);(case hg => rfl);(case hr => first | (go_simp;done) | (go_simp;rfl));intro gb101 hg w18 hbox hb;have n0_:=Aside0.mk (below_step (by repeat (first | (with_reducible first | exact HB.out | apply below_alloc | apply pw_below_drewN | apply below_drew1) | exact HB.out)) hb);have n1_:=Aside0.mk (hbox);have n2_:=Aside0.mk ((by rw [hg];exact (below_size (by repeat (first | (with_reducible first | exact HB.out | apply below_alloc | apply pw_below_drewN | apply below_drew1) | exact HB.out))) : w.heap.size ≤ gb101));have n3_:=Aside0.mk ((by rw [hg];exact (below_size (by repeat (first | (with_reducible first | exact HB.out | apply below_alloc | apply pw_below_drewN | apply below_drew1) | exact HB.out))) : w.heap.size ≤ gb101));clear HB;have HB:=n0_;have BK101:=n1_;have GW101:=n2_;have GE101:=n3_;clear n0_ n1_ n2_ n3_;clear hb hbox hg;have hcz19_0 : w18.cell? ⟨gb101,0,none⟩ = some (.int .i64 a0_0):=(blk_cell BK101.out 0).trans rfl;have hcz19_1 : w18.cell? ⟨gb101,1,none⟩ = some (.int .i64 a0_1):=(blk_cell BK101.out 1).trans rfl;have hcz19_2 : w18.cell? ⟨gb101,2,none⟩ = some (.int .i64 a0_2):=(blk_cell BK101.out 2).trans rfl;have hcz19_3 : w18.cell? ⟨gb101,3,none⟩ = some (.int .i64 a0_3):=(blk_cell BK101.out 3).trans rfl;have hfz19_0:=blk_frozen BK101.out 0;have hfz19_1:=blk_frozen BK101.out 1;have hfz19_2:=blk_frozen BK101.out 2;have hfz19_3:=blk_frozen BK101.out 3))
       go_ret
       exact ⟨by first | rfl | (simp [errW_none,errW_some] <;> rfl) | (simp [*,errW_none,errW_some] <;> rfl),by repeat (first | (with_reducible first | exact HB.out | apply below_alloc | apply pw_below_drewN | apply below_drew1 | refine below_set ?_ GE101.out) | exact HB.out)⟩
    ·rw [if_neg c5] at H
     have c5b0 : decide (a0_1 ≤ 16) = false:=decide_eq_false c5
     clear c5
     obtain rfl:=Option.some.inj H
     go_enter Try.func61,Try.ntmps61
     go_wp2_with (first | ((with_reducible refine gate_dst (N:=1) rfl ?_);refine box_event ?hg (N:=1) ?hd (cs := #[.int .i64 a0_0, .int .i64 a0_1, .int .i64 a0_2, .int .i64 a0_3]) (t:=26) ?hr ?_;(case hd => rfl);(case hg => rfl);(case hr => first | (go_simp;done) | (go_simp;rfl));intro gb101 hg w20 hbox hb;have n0_:=Aside0.mk (below_step (by repeat (first | (with_reducible first | exact HB.out | apply below_alloc | apply pw_below_drewN | apply below_drew1) | exact HB.out)) hb);have n1_:=Aside0.mk (hbox);have n2_:=Aside0.mk ((by rw [hg];exact (below_size (by repeat (first | (with_reducible first | exact HB.out | apply below_alloc | apply pw_below_drewN | apply below_drew1) | exact HB.out))) : w.heap.size ≤ gb101));have n3_:=Aside0.mk ((by rw [hg];exact (below_size (by repeat (first | (with_reducible first | exact HB.out | apply below_alloc | apply pw_below_drewN | apply below_drew1) | exact HB.out))) : w.heap.size ≤ gb101));clear HB;have HB:=n0_;have BK101:=n1_;have GW101:=n2_;have GE101:=n3_;clear n0_ n1_ n2_ n3_;clear hb hbox hg;have hcz21_0 : w20.cell? ⟨gb101,0,none⟩ = some (.int .i64 a0_0):=(blk_cell BK101.out 0).trans rfl;have hcz21_1 : w20.cell? ⟨gb101,1,none⟩ = some (.int .i64 a0_1):=(blk_cell BK101.out 1).trans rfl;have hcz21_2 : w20.cell? ⟨gb101,2,none⟩ = some (.int .i64 a0_2):=(blk_cell BK101.out 2).trans rfl;have hcz21_3 : w20.cell? ⟨gb101,3,none⟩ = some (.int .i64 a0_3):=(blk_cell BK101.out 3).trans rfl;have hfz21_0:=blk_frozen BK101.out 0;have hfz21_1:=blk_frozen BK101.out 1;have hfz21_2:=blk_frozen BK101.out 2;have hfz21_3:=blk_frozen BK101.out 3))
     go_ret
     exact ⟨by first | rfl | (simp [errW_none,errW_some] <;> rfl) | (simp [*,errW_none,errW_some] <;> rfl),by repeat (first | (with_reducible first | exact HB.out | apply below_alloc | apply pw_below_drewN | apply below_drew1 | refine below_set ?_ GE101.out) | exact HB.out)⟩
   ·rw [if_neg c4] at H
    have c4b0 : decide (1 ≤ a0_1) = false:=decide_eq_false c4
    clear c4
    obtain rfl:=Option.some.inj H
    go_enter Try.func61,Try.ntmps61
    go_wp2_with (first | ((with_reducible refine gate_dst (N:=1) rfl ?_);refine box_event ?hg (N:=1) ?hd (cs := #[.int .i64 a0_0, .int .i64 a0_1, .int .i64 a0_2, .int .i64 a0_3]) (t:=26) ?hr ?_;(case hd => rfl);(case hg => rfl);(case hr => first | (go_simp;done) | (go_simp;rfl));intro gb101 hg w22 hbox hb;have n0_:=Aside0.mk (below_step (by repeat (first | (with_reducible first | exact HB.out | apply below_alloc | apply pw_below_drewN | apply below_drew1) | exact HB.out)) hb);have n1_:=Aside0.mk (hbox);have n2_:=Aside0.mk ((by rw [hg];exact (below_size (by repeat (first | (with_reducible first | exact HB.out | apply below_alloc | apply pw_below_drewN | apply below_drew1) | exact HB.out))) : w.heap.size ≤ gb101));have n3_:=Aside0.mk ((by rw [hg];exact (below_size (by repeat (first | (with_reducible first | exact HB.out | apply below_alloc | apply pw_below_drewN | apply below_drew1) | exact HB.out))) : w.heap.size ≤ gb101));clear HB;have HB:=n0_;have BK101:=n1_;have GW101:=n2_;have GE101:=n3_;clear n0_ n1_ n2_ n3_;clear hb hbox hg;have hcz23_0 : w22.cell? ⟨gb101,0,none⟩ = some (.int .i64 a0_0):=(blk_cell BK101.out 0).trans rfl;have hcz23_1 : w22.cell? ⟨gb101,1,none⟩ = some (.int .i64 a0_1):=(blk_cell BK101.out 1).trans rfl;have hcz23_2 : w22.cell? ⟨gb101,2,none⟩ = some (.int .i64 a0_2):=(blk_cell BK101.out 2).trans rfl;have hcz23_3 : w22.cell? ⟨gb101,3,none⟩ = some (.int .i64 a0_3):=(blk_cell BK101.out 3).trans rfl;have hfz23_0:=blk_frozen BK101.out 0;have hfz23_1:=blk_frozen BK101.out 1;have hfz23_2:=blk_frozen BK101.out 2;have hfz23_3:=blk_frozen BK101.out 3))
    go_ret
    exact ⟨by first | rfl | (simp [errW_none,errW_some] <;> rfl) | (simp [*,errW_none,errW_some] <;> rfl),by repeat (first | (with_reducible first | exact HB.out | apply below_alloc | apply pw_below_drewN | apply below_drew1 | refine below_set ?_ GE101.out) | exact HB.out)⟩
  ·rw [if_neg c3] at H
   have c3b0 : decide (a0_0 ≤ 8) = false:=decide_eq_false c3
   clear c3
   obtain rfl:=Option.some.inj H
   go_enter Try.func61,Try.ntmps61
   go_wp2_with (first | ((with_reducible refine gate_dst (N:=1) rfl ?_);refine box_event ?hg (N:=1) ?hd (cs := #[.int .i64 a0_0, .int .i64 a0_1, .int .i64 a0_2, .int .i64 a0_3]) (t:=26) ?hr ?_;(case hd => rfl);(case hg => rfl);(case hr => first | (go_simp;done) | (go_simp;rfl));intro gb101 hg w24 hbox hb;have n0_:=Aside0.mk (below_step (by repeat (first | (with_reducible first | exact HB.out | apply below_alloc | apply pw_below_drewN | apply below_drew1) | exact HB.out)) hb);have n1_:=Aside0.mk (hbox);have n2_:=Aside0.mk ((by rw [hg];exact (below_size (by repeat (first | (with_reducible first | exact HB.out | apply below_alloc | apply pw_below_drewN | apply below_drew1) | exact HB.out))) : w.heap.size ≤ gb101));have n3_:=Aside0.mk ((by rw [hg];exact (below_size (by repeat (first | (with_reducible first | exact HB.out | apply below_alloc | apply pw_below_drewN | apply below_drew1) | exact HB.out))) : w.heap.size ≤ gb101));clear HB;have HB:=n0_;have BK101:=n1_;have GW101:=n2_;have GE101:=n3_;clear n0_ n1_ n2_ n3_;clear hb hbox hg;have hcz25_0 : w24.cell? ⟨gb101,0,none⟩ = some (.int .i64 a0_0):=(blk_cell BK101.out 0).trans rfl;have hcz25_1 : w24.cell? ⟨gb101,1,none⟩ = some (.int .i64 a0_1):=(blk_cell BK101.out 1).trans rfl;have hcz25_2 : w24.cell? ⟨gb101,2,none⟩ = some (.int .i64 a0_2):=(blk_cell BK101.out 2).trans rfl;have hcz25_3 : w24.cell? ⟨gb101,3,none⟩ = some (.int .i64 a0_3):=(blk_cell BK101.out 3).trans rfl;have hfz25_0:=blk_frozen BK101.out 0;have hfz25_1:=blk_frozen BK101.out 1;have hfz25_2:=blk_frozen BK101.out 2;have hfz25_3:=blk_frozen BK101.out 3))
   go_ret
   exact ⟨by first | rfl | (simp [errW_none,errW_some] <;> rfl) | (simp [*,errW_none,errW_some] <;> rfl),by repeat (first | (with_reducible first | exact HB.out | apply below_alloc | apply pw_below_drewN | apply below_drew1 | refine below_set ?_ GE101.out) | exact HB.out)⟩
 ·rw [if_neg c2] at H
  have c2b0 : decide (1 ≤ a0_0) = false:=decide_eq_false c2
  clear c2
  obtain rfl:=Option.some.inj H
  go_enter Try.func61,Try.ntmps61
  go_wp2_with (first | ((with_reducible refine gate_dst (N:=1) rfl ?_);refine box_event ?hg (N:=1) ?hd (cs := #[.int .i64 a0_0, .int .i64 a0_1, .int .i64 a0_2, .int .i64 a0_3]) (t:=26) ?hr ?_;(case hd => rfl);(case hg => rfl);(case hr => first | (go_simp;done) | (go_simp;rfl));intro gb101 hg w26 hbox hb;have n0_:=Aside0.mk (below_step (by repeat (first | (with_reducible first | exact HB.out | apply below_alloc | apply pw_below_drewN | apply below_drew1) | exact HB.out)) hb);have n1_:=Aside0.mk (hbox);have n2_:=Aside0.mk ((by rw [hg];exact (below_size (by repeat (first | (with_reducible first | exact HB.out | apply below_alloc | apply pw_below_drewN | apply below_drew1) | exact HB.out))) : w.heap.size ≤ gb101));have n3_:=Aside0.mk ((by rw [hg];exact (below_size (by repeat (first | (with_reducible first | exact HB.out | apply below_alloc | apply pw_below_drewN | apply below_drew1) | exact HB.out))) : w.heap.size ≤ gb101));clear HB;have HB:=n0_;have BK101:=n1_;have GW101:=n2_;have GE101:=n3_;clear n0_ n1_ n2_ n3_;clear hb hbox hg;have hcz27_0 : w26.cell? ⟨gb101,0,none⟩ = some (.int .i64 a0_0):=(blk_cell BK101.out 0).trans rfl;have hcz27_1 : w26.cell? ⟨gb101,1,none⟩ = some (.int .i64 a0_1):=(blk_cell BK101.out 1).trans rfl;have hcz27_2 : w26.cell? ⟨gb101,2,none⟩ = some (.int .i64 a0_2):=(blk_cell BK101.out 2).trans rfl;have hcz27_3 : w26.cell? ⟨gb101,3,none⟩ = some (.int .i64 a0_3):=(blk_cell BK101.out 3).trans rfl;have hfz27_0:=blk_frozen BK101.out 0;have hfz27_1:=blk_frozen BK101.out 1;have hfz27_2:=blk_frozen BK101.out 2;have hfz27_3:=blk_frozen BK101.out 3))
  go_ret
  exact ⟨by first | rfl | (simp [errW_none,errW_some] <;> rfl) | (simp [*,errW_none,errW_some] <;> rfl),by repeat (first | (with_reducible first | exact HB.out | apply below_alloc | apply pw_below_drewN | apply below_drew1 | refine below_set ?_ GE101.out) | exact HB.out)⟩
def impl_goodFilters.l0 : Nat → List (S89) → Int → Int → Option (Bool)
 | 0,_,_,_ => none
 | k + 1,x9,x10,x11 => if x11 < x10 then (if 0 ≤ x11 then (if x11 < (x9.length : Int) then (if (rd_T89 x9 x11).f0 = true then (if (mx ((rd_T89 x9 x11).f1) ((rd_T89 x9 x11).f2)) ≥ 536870912 then (some false) else (impl_goodFilters.l0 k x9 x10 (wrap64 (x11 + 1)))) else (if (mx ((rd_T89 x9 x11).f1) ((rd_T89 x9 x11).f2)) ≥ 2048 then (some false) else (impl_goodFilters.l0 k x9 x10 (wrap64 (x11 + 1))))) else (none)) else (none)) else (some true)
def impl_goodFilters.f (k : Nat) (l0 : List (S89)) : Option (Bool):=if (l0.length : Int) > 16 then (some false) else (impl_goodFilters.l0 k l0 (l0.length : Int) 0)
set_option maxHeartbeats 8000000 in
set_option maxRecDepth 100000 in
theorem impl_goodFilters.calls (k : Nat) (A0 : Option Addr) (c0 : Nat) (l0 : List (S89)) (r : Bool) (w : World) (hr0 : Kd.C k89 w A0 l0.length l0) (hc0 : l0.length ≤ c0) (h : impl_goodFilters.f k l0 = some r) :
  Calls Try.prog 62 #[.slice A0 l0.length c0] w fun e w' => e = .returned (.bool r) ∧ Below w.heap.size w w':=by
 have hu89:=Try.underlying89
 have HR0:=Aside0.mk hr0
 have HC0:=Aside0.mk hc0
 clear hr0 hc0
 have HB:=Aside0.mk (Below.refl w.heap.size w)
 have H : (if (l0.length : Int) > 16 then (some false) else (impl_goodFilters.l0 k l0 (l0.length : Int) 0)) = some r:=h
 clear h
 by_cases c2 : (l0.length : Int) > 16
 ·rw [if_pos c2] at H
  have c2b0 : decide (16 < (l0.length : Int)) = true:=decide_eq_true c2
  have c2b1 : decide (16 < l0.length) = true:=decide_eq_true (by omega)
  clear c2
  obtain rfl:=Option.some.inj H
  go_enter Try.func62,Try.ntmps62
  go_wp2
  go_ret
  exact ⟨by first | rfl | (simp [errW_none,errW_some] <;> rfl) | (simp [*,errW_none,errW_some] <;> rfl),by repeat (first | (with_reducible first | exact HB.out | apply below_alloc | apply pw_below_drewN | apply below_drew1) | exact HB.out)⟩
 ·rw [if_neg c2] at H
  have c2b0 : decide (16 < (l0.length : Int)) = false:=decide_eq_false c2
  have c2b1 : decide (16 < l0.length) = false:=decide_eq_false (by omega)
  clear c2
  have H':=Aside0.mk H
  clear H
  go_enter Try.func62,Try.ntmps62
  go_wp2
  go_loopg [11] k (fun kq v11 w' => ∃ (x11_1 : Int),v11 = .int .i64 x11_1 ∧ Aside0 (impl_goodFilters.l0 kq l0 (l0.length : Int) x11_1 = some r) ∧ Aside0 (kq ≤ k) ∧ Aside0 (Below w.heap.size w w'))
  case atStart => exact ⟨(0),(by first | rfl | (simp;done) | (simp [*];done)),H',⟨Nat.le_refl _⟩,⟨by repeat (first | (with_reducible first | exact HB.out | apply below_alloc | apply pw_below_drewN | apply below_drew1) | exact HB.out)⟩⟩
  case round =>
   clear H'
   try clear c2
   try clear c2b0
   try clear c2b1
   try clear p2
   obtain ⟨x11_1,rfl,HA,HK1,HB⟩:=hrel
   cases gk with
   | zero => exact absurd HA.out (by simp [impl_goodFilters.l0])
   | succ k1 =>
    have H:=HA.out
    clear HA
    simp only [impl_goodFilters.l0] at H
    by_cases c3 : x11_1 < (l0.length : Int)
    ·rw [if_pos c3] at H
     have c3b0 : decide (x11_1 < (l0.length : Int)) = true:=decide_eq_true c3
     clear c3
     by_cases c4 : 0 ≤ x11_1
     ·rw [if_pos c4] at H
      have c4b0 : decide (0 ≤ x11_1) = true:=decide_eq_true c4
      clear c4
      by_cases c5 : x11_1 < (l0.length : Int)
      ·rw [if_pos c5] at H
       have c5b0 : decide (x11_1 < (l0.length : Int)) = true:=decide_eq_true c5
       clear c5
       obtain ⟨bq6,hbq6⟩ : ∃ b_ : Bool,b_ = ((rd_T89 l0 x11_1).f0):=⟨_,rfl⟩
       replace H : (if bq6 = true then (if (mx ((rd_T89 l0 x11_1).f1) ((rd_T89 l0 x11_1).f2)) ≥ 536870912 then (some false) else (impl_goodFilters.l0 k1 l0 (l0.length : Int) (wrap64 (x11_1 + 1)))) else (if (mx ((rd_T89 l0 x11_1).f1) ((rd_T89 l0 x11_1).f2)) ≥ 2048 then (some false) else (impl_goodFilters.l0 k1 l0 (l0.length : Int) (wrap64 (x11_1 + 1))))) = some r:=by rw [← hbq6] at H;exact H
       have Nbq6:=Aside0.mk hbq6
       clear hbq6
       by_cases c7 : bq6 = true
       ·subst c7
        have H1 : (if (mx ((rd_T89 l0 x11_1).f1) ((rd_T89 l0 x11_1).f2)) ≥ 536870912 then (some false) else (impl_goodFilters.l0 k1 l0 (l0.length : Int) (wrap64 (x11_1 + 1)))) = some r:=by rw [if_pos rfl] at H;exact H
        clear H
        have H:=H1
        clear H1
        obtain ⟨ji8,hji8⟩ : ∃ j_ : Int,(mx ((rd_T89 l0 x11_1).f1) ((rd_T89 l0 x11_1).f2)) = j_:=⟨_,rfl⟩
        replace H : (if (ji8) ≥ 536870912 then (some false) else (impl_goodFilters.l0 k1 l0 (l0.length : Int) (wrap64 (x11_1 + 1)))) = some r:=by first | (rw [hji8] at H;exact H) | (simp only [hji8] at H ⊢;exact H)
        have hji8_ : (if ((rd_T89 l0 x11_1).f1) < ((rd_T89 l0 x11_1).f2) then ((rd_T89 l0 x11_1).f2) else ((rd_T89 l0 x11_1).f1)) = ji8:=hji8
        by_cases c9 : (ji8) ≥ 536870912
        ·rw [if_pos c9] at H
         have c9b0 : decide (536870912 ≤ (ji8)) = true:=decide_eq_true c9
         clear c9
         obtain rfl:=Option.some.inj H
         have p102 : 0 ≤ (x11_1 : Int):=of_decide_eq_true (by first | (with_reducible assumption) | assumption)
         have q102 : x11_1 < (l0.length : Int):=of_decide_eq_true (by first | (with_reducible assumption) | assumption)
         obtain ⟨ad102,e102,hx102_0,hx102_1,hx102_2⟩:=at_T89 HR0.out x11_1 p102 q102
         (try rw [← Nbq6.out] at hx102_0)
         cases e102
         replace hx102_0:=(HB.out.cell (World.block_lt_of_cell? w _ hx102_0)).trans hx102_0
         replace hx102_1:=(HB.out.cell (World.block_lt_of_cell? w _ hx102_1)).trans hx102_1
         replace hx102_2:=(HB.out.cell (World.block_lt_of_cell? w _ hx102_2)).trans hx102_2
         replace p102:=eq_true p102
         replace q102:=eq_true q102
         go_wp2_with (first | ((with_reducible refine gate_dst (N:=4) rfl ?_);refine box_event ?hg (N:=4) ?hd (cs := #[.bool false, .int .u32 0, .int .u32 0]) (t:=89) ?hr ?_;(case hd => rfl);(case hg => rfl);(case hr => first | (go_simp;done) | (go_simp;rfl));intro gb103 hg w10 hbox hb;have n0_:=Aside0.mk (below_step (by repeat (first | (with_reducible first | exact HB.out | apply below_alloc | apply pw_below_drewN | apply below_drew1) | exact HB.out)) hb);have n1_:=Aside0.mk (hbox);have n2_:=Aside0.mk ((by rw [hg];exact (below_size (by repeat (first | (with_reducible first | exact HB.out | apply below_alloc | apply pw_below_drewN | apply below_drew1) | exact HB.out))) : w.heap.size ≤ gb103));have n3_:=Aside0.mk ((by rw [hg];exact (below_size (by repeat (first | (with_reducible first | exact HB.out | apply below_alloc | apply pw_below_drewN | apply below_drew1) | exact HB.out))) : w.heap.size ≤ gb103));clear HB;have HB:=n0_;have BK103:=n1_;have GW103:=n2_;have GE103:=n3_;clear n0_ n1_ n2_ n3_;clear hb hbox hg;have hcz11_0 : w10.cell? ⟨gb103,0,none⟩ = some (.bool false):=(blk_cell BK103.out 0).trans rfl;have hcz11_1 : w10.cell? ⟨gb103,1,none⟩ = some (.int .u32 0):=(blk_cell BK103.out 1).trans rfl;have hcz11_2 : w10.cell? ⟨gb103,2,none⟩ = some (.int .u32 0):=(blk_cell BK103.out 2).trans rfl;have hfz11_0:=blk_frozen BK103.out 0;have hfz11_1:=blk_frozen BK103.out 1;have hfz11_2:=blk_frozen BK103.out 2))
         go_ret
         exact ⟨by first | rfl | (simp [errW_none,errW_some] <;> rfl) | (simp only [← hji8];first | rfl | (simp [errW_none,errW_some] <;> rfl)) | (simp [*,errW_none,errW_some] <;> rfl),by repeat (first | (with_reducible first | exact HB.out | apply below_alloc | apply pw_below_drewN | apply below_drew1 | refine below_set ?_ GE103.out) | exact HB.out)⟩
        ·rw [if_neg c9] at H
         have c9b0 : decide (536870912 ≤ (ji8)) = false:=decide_eq_false c9
         clear c9
         have H':=Aside0.mk H
         clear H
         have p102 : 0 ≤ (x11_1 : Int):=of_decide_eq_true (by first | (with_reducible assumption) | assumption)
         have q102 : x11_1 < (l0.length : Int):=of_decide_eq_true (by first | (with_reducible assumption) | assumption)
         obtain ⟨ad102,e102,hx102_0,hx102_1,hx102_2⟩:=at_T89 HR0.out x11_1 p102 q102
         (try rw [← Nbq6.out] at hx102_0)
         cases e102
         replace hx102_0:=(HB.out.cell (World.block_lt_of_cell? w _ hx102_0)).trans hx102_0
         replace hx102_1:=(HB.out.cell (World.block_lt_of_cell? w _ hx102_1)).trans hx102_1
         replace hx102_2:=(HB.out.cell (World.block_lt_of_cell? w _ hx102_2)).trans hx102_2
         replace p102:=eq_true p102
         replace q102:=eq_true q102
         go_wp2_with (first | ((with_reducible refine gate_dst (N:=4) rfl ?_);refine box_event ?hg (N:=4) ?hd (cs := #[.bool false, .int .u32 0, .int .u32 0]) (t:=89) ?hr ?_;(case hd => rfl);(case hg => rfl);(case hr => first | (go_simp;done) | (go_simp;rfl));intro gb103 hg w12 hbox hb;have n0_:=Aside0.mk (below_step (by repeat (first | (with_reducible first | exact HB.out | apply below_alloc | apply pw_below_drewN | apply below_drew1) | exact HB.out)) hb);have n1_:=Aside0.mk (hbox);have n2_:=Aside0.mk ((by rw [hg];exact (below_size (by repeat (first | (with_reducible first | exact HB.out | apply below_alloc | apply pw_below_drewN | apply below_drew1) | exact HB.out))) : w.heap.size ≤ gb103));have n3_:=Aside0.mk ((by rw [hg];exact (below_size (by repeat (first | (with_reducible first | exact HB.out | apply below_alloc | apply pw_below_drewN | apply below_drew1) | exact HB.out))) : w.heap.size ≤ gb103));clear HB;have HB:=n0_;have BK103:=n1_;have GW103:=n2_;have GE103:=n3_;clear n0_ n1_ n2_ n3_;clear hb hbox hg;have hcz13_0 : w12.cell? ⟨gb103,0,none⟩ = some (.bool false):=(blk_cell BK103.out 0).trans rfl;have hcz13_1 : w12.cell? ⟨gb103,1,none⟩ = some (.int .u32 0):=(blk_cell BK103.out 1).trans rfl;have hcz13_2 : w12.cell? ⟨gb103,2,none⟩ = some (.int .u32 0):=(blk_cell BK103.out 2).trans rfl;have hfz13_0:=blk_frozen BK103.out 0;have hfz13_1:=blk_frozen BK103.out 1;have hfz13_2:=blk_frozen BK103.out 2))
         go_roundg k1
         case measure => have:=HK1.out;omega
         case rel => exact ⟨(wrap64 (x11_1 + 1)),(by first | rfl | (simp;done) | (simp [*];done)),H',⟨by have:=HK1.out;omega⟩,⟨by repeat (first | (with_reducible first | exact HB.out | apply below_alloc | apply pw_below_drewN | apply below_drew1 | refine below_set ?_ GE103.out) | exact HB.out)⟩⟩
       ·replace c7:=Bool.eq_false_iff.mpr c7
        subst c7
        have H1 : (if (mx ((rd_T89 l0 x11_1).f1) ((rd_T89 l0 x11_1).f2)) ≥ 2048 then (some false) else (impl_goodFilters.l0 k1 l0 (l0.length : Int) (wrap64 (x11_1 + 1)))) = some r:=by rw [if_neg (show ¬ (false = true) by decide)] at H;exact H
        clear H
        have H:=H1
        clear H1
        obtain ⟨ji14,hji14⟩ : ∃ j_ : Int,(mx ((rd_T89 l0 x11_1).f1) ((rd_T89 l0 x11_1).f2)) = j_:=⟨_,rfl⟩
        replace H : (if (ji14) ≥ 2048 then (some false) else (impl_goodFilters.l0 k1 l0 (l0.length : Int) (wrap64 (x11_1 + 1)))) = some r:=by first | (rw [hji14] at H;exact H) | (simp only [hji14] at H ⊢;exact H)
        have hji14_ : (if ((rd_T89 l0 x11_1).f1) < ((rd_T89 l0 x11_1).f2) then ((rd_T89 l0 x11_1).f2) else ((rd_T89 l0 x11_1).f1)) = ji14:=hji14
        by_cases c15 : (ji14) ≥ 2048
        ·rw [if_pos c15] at H
         have c15b0 : decide (2048 ≤ (ji14)) = true:=decide_eq_true c15
         clear c15
         obtain rfl:=Option.some.inj H
         have p102 : 0 ≤ (x11_1 : Int):=of_decide_eq_true (by first | (with_reducible assumption) | assumption)
         have q102 : x11_1 < (l0.length : Int):=of_decide_eq_true (by first | (with_reducible assumption) | assumption)
         obtain ⟨ad102,e102,hx102_0,hx102_1,hx102_2⟩:=at_T89 HR0.out x11_1 p102 q102
         (try rw [← Nbq6.out] at hx102_0)
         cases e102
         replace hx102_0:=(HB.out.cell (World.block_lt_of_cell? w _ hx102_0)).trans hx102_0
         replace hx102_1:=(HB.out.cell (World.block_lt_of_cell? w _ hx102_1)).trans hx102_1
         replace hx102_2:=(HB.out.cell (World.block_lt_of_cell? w _ hx102_2)).trans hx102_2
         replace p102:=eq_true p102
         replace q102:=eq_true q102
         go_wp2_with (first | ((with_reducible refine gate_dst (N:=4) rfl ?_);refine box_event ?hg (N:=4) ?hd (cs := #[.bool false, .int .u32 0, .int .u32 0]) (t:=89) ?hr ?_;(case hd => rfl);(case hg => rfl);(case hr => first | (go_simp;done) | (go_simp;rfl));intro gb103 hg w16 hbox hb;have n0_:=Aside0.mk (below_step (by repeat (first | (with_reducible first | exact HB.out | apply below_alloc | apply pw_below_drewN | apply below_drew1) | exact HB.out)) hb);have n1_:=Aside0.mk (hbox);have n2_:=Aside0.mk ((by rw [hg];exact (below_size (by repeat (first | (with_reducible first | exact HB.out | apply below_alloc | apply pw_below_drewN | apply below_drew1) | exact HB.out))) : w.heap.size ≤ gb103));have n3_:=Aside0.mk ((by rw [hg];exact (below_size (by repeat (first | (with_reducible first | exact HB.out | apply below_alloc | apply pw_below_drewN | apply below_drew1) | exact HB.out))) : w.heap.size ≤ gb103));clear HB;have HB:=n0_;have BK103:=n1_;have GW103:=n2_;have GE103:=n3_;clear n0_ n1_ n2_ n3_;clear hb hbox hg;have hcz17_0 : w16.cell? ⟨gb103,0,none⟩ = some (.bool false):=(blk_cell BK103.out 0).trans rfl;have hcz17_1 : w16.cell? ⟨gb103,1,none⟩ = some (.int .u32 0):=(blk_cell BK103.out 1).trans rfl;have hcz17_2 : w16.cell? ⟨gb103,2,none⟩ = some (.int .u32 0):=(blk_cell BK103.out 2).trans rfl;have hfz17_0:=blk_frozen BK103.out 0;have hfz17_1:=blk_frozen BK103.out 1;have hfz17_2:=blk_frozen BK103.out 2))
         go_ret
         exact ⟨by first | rfl | (simp [errW_none,errW_some] <;> rfl) | (simp only [← hji14];first | rfl | (simp [errW_none,errW_some] <;> rfl)) | (simp [*,errW_none,errW_some] <;> rfl),by repeat (first | (with_reducible first | exact HB.out | apply below_alloc | apply pw_below_drewN | apply below_drew1 | refine below_set ?_ GE103.out) | exact HB.out)⟩
        ·rw [if_neg c15] at H
         have c15b0 : decide (2048 ≤ (ji14)) = false:=decide_eq_false c15
         clear c15
         have H':=Aside0.mk H
         clear H
         have p102 : 0 ≤ (x11_1 : Int):=of_decide_eq_true (by first | (with_reducible assumption) | assumption)
         have q102 : x11_1 < (l0.length : Int):=of_decide_eq_true (by first | (with_reducible assumption) | assumption)
         obtain ⟨ad102,e102,hx102_0,hx102_1,hx102_2⟩:=at_T89 HR0.out x11_1 p102 q102
         (try rw [← Nbq6.out] at hx102_0)
         cases e102
         replace hx102_0:=(HB.out.cell (World.block_lt_of_cell? w _ hx102_0)).trans hx102_0
         replace hx102_1:=(HB.out.cell (World.block_lt_of_cell? w _ hx102_1)).trans hx102_1
         replace hx102_2:=(HB.out.cell (World.block_lt_of_cell? w _ hx102_2)).trans hx102_2
         replace p102:=eq_true p102
         replace q102:=eq_true q102
         go_wp2_with (first | ((with_reducible refine gate_dst (N:=4) rfl ?_);refine box_event ?hg (N:=4) ?hd (cs := #[.bool false, .int .u32 0, .int .u32 0]) (t:=89) ?hr ?_;(case hd => rfl);(case hg => rfl);(case hr => first | (go_simp;done) | (go_simp;rfl));intro gb103 hg w18 hbox hb;have n0_:=Aside0.mk (below_step (by repeat (first | (with_reducible first | exact HB.out | apply below_alloc | apply pw_below_drewN | apply below_drew1) | exact HB.out)) hb);have n1_:=Aside0.mk (hbox);have n2_:=Aside0.mk ((by rw [hg];exact (below_size (by repeat (first | (with_reducible first | exact HB.out | apply below_alloc | apply pw_below_drewN | apply below_drew1) | exact HB.out))) : w.heap.size ≤ gb103));have n3_:=Aside0.mk ((by rw [hg];exact (below_size (by repeat (first | (with_reducible first | exact HB.out | apply below_alloc | apply pw_below_drewN | apply below_drew1) | exact HB.out))) : w.heap.size ≤ gb103));clear HB;have HB:=n0_;have BK103:=n1_;have GW103:=n2_;have GE103:=n3_;clear n0_ n1_ n2_ n3_;clear hb hbox hg;have hcz19_0 : w18.cell? ⟨gb103,0,none⟩ = some (.bool false):=(blk_cell BK103.out 0).trans rfl;have hcz19_1 : w18.cell? ⟨gb103,1,none⟩ = some (.int .u32 0):=(blk_cell BK103.out 1).trans rfl;have hcz19_2 : w18.cell? ⟨gb103,2,none⟩ = some (.int .u32 0):=(blk_cell BK103.out 2).trans rfl;have hfz19_0:=blk_frozen BK103.out 0;have hfz19_1:=blk_frozen BK103.out 1;have hfz19_2:=blk_frozen BK103.out 2))
         go_roundg k1
         case measure => have:=HK1.out;omega
         case rel => exact ⟨(wrap64 (x11_1 + 1)),(by first | rfl | (simp;done) | (simp [*];done)),H',⟨by have:=HK1.out;omega⟩,⟨by repeat (first | (with_reducible first | exact HB.out | apply below_alloc | apply pw_below_drewN | apply below_drew1 | refine below_set ?_ GE103.out) | exact HB.out)⟩⟩
      ·rw [if_neg c5] at H
       exact absurd H (by simp)
     ·rw [if_neg c4] at H
      exact absurd H (by simp)
    ·rw [if_neg c3] at H
     have c3b0 : decide (x11_1 < (l0.length : Int)) = false:=decide_eq_false c3
     clear c3
     obtain rfl:=Option.some.inj H
     go_wp2
     go_ret
     exact ⟨by first | rfl | (simp [errW_none,errW_some] <;> rfl) | (simp [*,errW_none,errW_some] <;> rfl),by repeat (first | (with_reducible first | exact HB.out | apply below_alloc | apply pw_below_drewN | apply below_drew1) | exact HB.out)⟩
end Go.Proofs.Ytcaefabbcjlkdaa.P
namespace Go.Proofs.Ytcaefabbcjlkdaa.P
open Go Go.RowKit Go.Proofs.YtcaefabbcjlkdaaW.PrintWords Go.Proofs.YtcaefabbcjlkdaaW.PrintLast Go.Proofs.YtcaefabbcjlkdaaW.PrintMore
set_option linter.unusedVariables false
set_option linter.unusedSimpArgs false
theorem goodConfig_is {a b c d : Int} (h : impl_goodConfig.f a b c d = some true) : (1 ≤ a ∧ a ≤ 8) ∧ (1 ≤ b ∧ b ≤ 16) ∧ (1 ≤ d ∧ d ≤ 32):=by
 unfold impl_goodConfig.f at h
 repeat' split at h
 all_goals first | (simp only [Option.some.injEq,decide_eq_true_eq] at h;omega) | (simp at h;done)
theorem goodFilters_is {k : Nat} {fs : List S89} (h : impl_goodFilters.f k fs = some true) : fs.length ≤ 16:=by
 unfold impl_goodFilters.f at h
 split at h
 ·simp at h
 ·omega
end Go.Proofs.Ytcaefabbcjlkdaa.P
namespace Go.Proofs.Ytcaefabbcjlkdaa.P
open Go.RowKit Go.Proofs.YtcaefabbcjlkdaaW.PrintWords Go.Proofs.YtcaefabbcjlkdaaW.PrintLast Go.Proofs.YtcaefabbcjlkdaaW.PrintMore
set_option linter.unusedVariables false
set_option linter.unusedSimpArgs false
def spec_l3okConfig.f (a0_0 : Int) (a0_1 : Int) (a0_2 : Int) (a0_3 : Int) : Option (Bool):=if a0_0 ≥ 1 then (if a0_0 ≤ 8 then (if a0_1 ≥ 1 then (if a0_1 ≤ 16 then (if a0_2 = 0 then (if a0_3 ≥ 1 then (some (decide (a0_3 ≤ 32))) else (some false)) else (if a0_2 = 1 then (if a0_3 ≥ 1 then (some (decide (a0_3 ≤ 32))) else (some false)) else (some false))) else (some false)) else (some false)) else (some false)) else (some false)
set_option maxHeartbeats 8000000 in
set_option maxRecDepth 100000 in
theorem spec_l3okConfig.calls (a0_0 : Int) (a0_1 : Int) (a0_2 : Int) (a0_3 : Int) (r : Bool) (w : World) (h : spec_l3okConfig.f a0_0 a0_1 a0_2 a0_3 = some r) :
  Calls Try.prog 57 #[.agg #[.int .i64 a0_0, .int .i64 a0_1, .int .i64 a0_2, .int .i64 a0_3]] w fun e w' => e = .returned (.bool r) ∧ Below w.heap.size w w':=by
 have hu26:=Try.underlying26
 have HB:=Aside0.mk (Below.refl w.heap.size w)
 have H : (if a0_0 ≥ 1 then (if a0_0 ≤ 8 then (if a0_1 ≥ 1 then (if a0_1 ≤ 16 then (if a0_2 = 0 then (if a0_3 ≥ 1 then (some (decide (a0_3 ≤ 32))) else (some false)) else (if a0_2 = 1 then (if a0_3 ≥ 1 then (some (decide (a0_3 ≤ 32))) else (some false)) else (some false))) else (some false)) else (some false)) else (some false)) else (some false)) = some r:=h
 clear h
 by_cases c2 : a0_0 ≥ 1
 ·rw [if_pos c2] at H
  have c2b0 : decide (1 ≤ a0_0) = true:=decide_eq_true c2
  clear c2
  by_cases c3 : a0_0 ≤ 8
  ·rw [if_pos c3] at H
   have c3b0 : decide (a0_0 ≤ 8) = true:=decide_eq_true c3
   clear c3
   by_cases c4 : a0_1 ≥ 1
   ·rw [if_pos c4] at H
    have c4b0 : decide (1 ≤ a0_1) = true:=decide_eq_true c4
    clear c4
    by_cases c5 : a0_1 ≤ 16
    ·rw [if_pos c5] at H
     have c5b0 : decide (a0_1 ≤ 16) = true:=decide_eq_true c5
     clear c5
     by_cases c6 : a0_2 = 0
     ·rw [if_pos c6] at H
      have c6b0 : (a0_2 == 0) = true:=beq_iff_eq.mpr c6
      have c6b1 : (a0_2 != 0) = false:=bne_eq_false_iff_eq.mpr c6
      clear c6
      by_cases c7 : a0_3 ≥ 1
      ·rw [if_pos c7] at H
       have c7b0 : decide (1 ≤ a0_3) = true:=decide_eq_true c7
       clear c7
       obtain rfl:=Option.some.inj H
       go_enter Try.func57,Try.ntmps57
       go_wp2_with (first | ((with_reducible refine gate_dst (N:=1) rfl ?_);refine box_event ?hg (N:=1) ?hd (cs := #[.int .i64 a0_0, .int .i64 a0_1, .int .i64 a0_2, .int .i64 a0_3]) (t:=26) ?hr ?_;(case hd => rfl);(case hg => rfl);(case hr => first | (go_simp;done) | (go_simp;rfl));intro gb286 hg w8 hbox hb;have n0_:=Aside0.mk (below_step (by repeat (first | (with_reducible first | exact HB.out | apply below_alloc | apply pw_below_drewN | apply below_drew1) | exact HB.out)) hb);have n1_:=Aside0.mk (hbox);have n2_:=Aside0.mk ((by rw [hg];exact (below_size (by repeat (first | (with_reducible first | exact HB.out | apply below_alloc | apply pw_below_drewN | apply below_drew1) | exact HB.out))) : w.heap.size ≤ gb286));have n3_:=Aside0.mk ((by rw [hg];exact (below_size (by repeat (first | (with_reducible first | exact HB.out | apply below_alloc | apply pw_below_drewN | apply below_drew1) | exact HB.out))) : w.heap.size ≤ gb286));clear HB;have HB:=n0_;have BK286:=n1_;have GW286:=n2_;have GE286:=n3_;clear n0_ n1_ n2_ n3_;clear hb hbox hg;have hcz9_0 : w8.cell? ⟨gb286,0,none⟩ = some (.int .i64 a0_0):=(blk_cell BK286.out 0).trans rfl;have hcz9_1 : w8.cell? ⟨gb286,1,none⟩ = some (.int .i64 a0_1):=(blk_cell BK286.out 1).trans rfl;have hcz9_2 : w8.cell? ⟨gb286,2,none⟩ = some (.int .i64 a0_2):=(blk_cell BK286.out 2).trans rfl;have hcz9_3 : w8.cell? ⟨gb286,3,none⟩ = some (.int .i64 a0_3):=(blk_cell BK286.out 3).trans rfl;have hfz9_0:=blk_frozen BK286.out 0;have hfz9_1:=blk_frozen BK286.out 1;have hfz9_2:=blk_frozen BK286.out 2;have hfz9_3:=blk_frozen BK286.out 3))
       go_ret
       exact ⟨by first | rfl | (simp [errW_none,errW_some] <;> rfl) | (simp [*,errW_none,errW_some] <;> rfl),by repeat (first | (with_reducible first | exact HB.out | apply below_alloc | apply pw_below_drewN | apply below_drew1 | refine below_set ?_ GE286.out) | exact HB.out)⟩
      ·rw [if_neg c7] at H
       have c7b0 : decide (1 ≤ a0_3) = false:=decide_eq_false c7
       clear c7
       obtain rfl:=Option.some.inj H
       go_enter Try.func57,Try.ntmps57
       go_wp2_with (first | ((with_reducible refine gate_dst (N:=1) rfl ?_);refine box_event ?hg (N:=1) ?hd (cs := #[.int .i64 a0_0, .int .i64 a0_1, .int .i64 a0_2, .int .i64 a0_3]) (t:=26) ?hr ?_;(case hd => rfl);(case hg => rfl);(case hr => first | (go_simp;done) | (go_simp;rfl));intro gb286 hg w10 hbox hb;have n0_:=Aside0.mk (below_step (by repeat (first | (with_reducible first | exact HB.out | apply below_alloc | apply pw_below_drewN | apply below_drew1) | exact HB.out)) hb);have n1_:=Aside0.mk (hbox);have n2_:=Aside0.mk ((by rw [hg];exact (below_size (by repeat (first | (with_reducible first | exact HB.out | apply below_alloc | apply pw_below_drewN | apply below_drew1) | exact HB.out))) : w.heap.size ≤ gb286));have n3_:=Aside0.mk ((by rw [hg];exact (below_size (by repeat (first | (with_reducible first | exact HB.out | apply below_alloc | apply pw_below_drewN | apply below_drew1) | exact HB.out))) : w.heap.size ≤ gb286));clear HB;have HB:=n0_;have BK286:=n1_;have GW286:=n2_;have GE286:=n3_;clear n0_ n1_ n2_ n3_;clear hb hbox hg;have hcz11_0 : w10.cell? ⟨gb286,0,none⟩ = some (.int .i64 a0_0):=(blk_cell BK286.out 0).trans rfl;have hcz11_1 : w10.cell? ⟨gb286,1,none⟩ = some (.int .i64 a0_1):=(blk_cell BK286.out 1).trans rfl;have hcz11_2 : w10.cell? ⟨gb286,2,none⟩ = some (.int .i64 a0_2):=(blk_cell BK286.out 2).trans rfl;have hcz11_3 : w10.cell? ⟨gb286,3,none⟩ = some (.int .i64 a0_3):=(blk_cell BK286.out 3).trans rfl;have hfz11_0:=blk_frozen BK286.out 0;have hfz11_1:=blk_frozen BK286.out 1;have hfz11_2:=blk_frozen BK286.out 2;have hfz11_3:=blk_frozen BK286.out 3))
       go_ret
       exact ⟨by first | rfl | (simp [errW_none,errW_some] <;> rfl) | (simp [*,errW_none,errW_some] <;> rfl),by repeat (first | (with_reducible first | exact HB.out | apply below_alloc | apply pw_below_drewN | apply below_drew1 | refine below_set ?_ GE286.out) | exact HB.out)⟩
     ·rw [if_neg c6] at H
      have c6b0 : (a0_2 == 0) = false:=beq_eq_false_iff_ne.mpr c6
      have c6b1 : (a0_2 != 0) = true:=bne_iff_ne.mpr c6
      by_cases c12 : a0_2 = 1
      ·rw [if_pos c12] at H
       have c12b0 : (a0_2 == 1) = true:=beq_iff_eq.mpr c12
       have c12b1 : (a0_2 != 1) = false:=bne_eq_false_iff_eq.mpr c12
       clear c12
       by_cases c13 : a0_3 ≥ 1
       ·rw [if_pos c13] at H
        have c13b0 : decide (1 ≤ a0_3) = true:=decide_eq_true c13
        clear c13
        obtain rfl:=Option.some.inj H
        go_enter Try.func57,Try.ntmps57
        go_wp2_with (first | ((with_reducible refine gate_dst (N:=1) rfl ?_);refine box_event ?hg (N:=1) ?hd (cs := #[.int .i64 a0_0, .int .i64 a0_1, .int .i64 a0_2, .int .i64 a0_3]) (t:=26) ?hr ?_;(case hd => rfl);(case hg => rfl);(case hr => first | (go_simp;done) | (go_simp;rfl));intro gb286 hg w14 hbox hb;have n0_:=Aside0.mk (below_step (by repeat (first | (with_reducible first | exact HB.out | apply below_alloc | apply pw_below_drewN | apply below_drew1) | exact HB.out)) hb);have n1_:=Aside0.mk (hbox);have n2_:=Aside0.mk ((by rw [hg];exact (below_size (by repeat (first | (with_reducible first | exact HB.out | apply below_alloc | apply pw_below_drewN | apply below_drew1) | exact HB.out))) : w.heap.size ≤ gb286));have n3_:=Aside0.mk ((by rw [hg];exact (below_size (by repeat (first | (with_reducible first | exact HB.out | apply below_alloc | apply pw_below_drewN | apply below_drew1) | exact HB.out))) : w.heap.size ≤ gb286));clear HB;have HB:=n0_;have BK286:=n1_;have GW286:=n2_;have GE286:=n3_;clear n0_ n1_ n2_ n3_;clear hb hbox hg;have hcz15_0 : w14.cell? ⟨gb286,0,none⟩ = some (.int .i64 a0_0):=(blk_cell BK286.out 0).trans rfl;have hcz15_1 : w14.cell? ⟨gb286,1,none⟩ = some (.int .i64 a0_1):=(blk_cell BK286.out 1).trans rfl;have hcz15_2 : w14.cell? ⟨gb286,2,none⟩ = some (.int .i64 a0_2):=(blk_cell BK286.out 2).trans rfl;have hcz15_3 : w14.cell? ⟨gb286,3,none⟩ = some (.int .i64 a0_3):=(blk_cell BK286.out 3).trans rfl;have hfz15_0:=blk_frozen BK286.out 0;have hfz15_1:=blk_frozen BK286.out 1;have hfz15_2:=blk_frozen BK286.out 2;have hfz15_3:=blk_frozen BK286.out 3))
        go_ret
        exact ⟨by first | rfl | (simp [errW_none,errW_some] <;> rfl) | (simp [*,errW_none,errW_some] <;> rfl),by repeat (first | (with_reducible first | exact HB.out | apply below_alloc | apply pw_below_drewN | apply below_drew1 | refine below_set ?_ GE286.out) | exact HB.out)⟩
       ·rw [if_neg c13] at H
        have c13b0 : decide (1 ≤ a0_3) = false:=decide_eq_false c13
        clear c13
        obtain rfl:=Option.some.inj H
        go_enter Try.func57,Try.ntmps57
        go_wp2_with (first | ((with_reducible refine gate_dst (N:=1) rfl ?_);refine box_event ?hg (N:=1) ?hd (cs := #[.int .i64 a0_0, .int .i64 a0_1, .int .i64 a0_2, .int .i64 a0_3]) (t:=26) ?hr ?_;(case hd => rfl);(case hg => rfl);(case hr => first | (go_simp;done) | (go_simp;rfl));intro gb286 hg w16 hbox hb;have n0_:=Aside0.mk (below_step (by repeat (first | (with_reducible first | exact HB.out | apply below_alloc | apply pw_below_drewN | apply below_drew1) | exact HB.out)) hb);have n1_:=Aside0.mk (hbox);have n2_:=Aside0.mk ((by rw [hg];exact (below_size (by repeat (first | (with_reducible first | exact HB.out | apply below_alloc | apply pw_below_drewN | apply below_drew1) | exact HB.out))) : w.heap.size ≤ gb286));have n3_:=Aside0.mk ((by rw [hg];exact (below_size (by repeat (first | (with_reducible first | exact HB.out | apply below_alloc | apply pw_below_drewN | apply below_drew1) | exact HB.out))) : w.heap.size ≤ gb286));clear HB;have HB:=n0_;have BK286:=n1_;have GW286:=n2_;have GE286:=n3_;clear n0_ n1_ n2_ n3_;clear hb hbox hg;have hcz17_0 : w16.cell? ⟨gb286,0,none⟩ = some (.int .i64 a0_0):=(blk_cell BK286.out 0).trans rfl;have hcz17_1 : w16.cell? ⟨gb286,1,none⟩ = some (.int .i64 a0_1):=(blk_cell BK286.out 1).trans rfl;have hcz17_2 : w16.cell? ⟨gb286,2,none⟩ = some (.int .i64 a0_2):=(blk_cell BK286.out 2).trans rfl;have hcz17_3 : w16.cell? ⟨gb286,3,none⟩ = some (.int .i64 a0_3):=(blk_cell BK286.out 3).trans rfl;have hfz17_0:=blk_frozen BK286.out 0;have hfz17_1:=blk_frozen BK286.out 1;have hfz17_2:=blk_frozen BK286.out 2;have hfz17_3:=blk_frozen BK286.out 3))
        go_ret
        exact ⟨by first | rfl | (simp [errW_none,errW_some] <;> rfl) | (simp [*,errW_none,errW_some] <;> rfl),by repeat (first | (with_reducible first | exact HB.out | apply below_alloc | apply pw_below_drewN | apply below_drew1 | refine below_set ?_ GE286.out) | exact HB.out)⟩
      ·rw [if_neg c12] at H
       have c12b0 : (a0_2 == 1) = false:=beq_eq_false_iff_ne.mpr c12
       have c12b1 : (a0_2 != 1) = true:=bne_iff_ne.mpr c12
       obtain rfl:=Option.some.inj H
       go_enter Try.func57,Try.ntmps57
       go_wp2_with (first | ((with_reducible refine gate_dst (N:=1) rfl ?_);refine box_event ?hg (N:=1) ?hd (cs := #[.int .i64 a0_0, .int .i64 a0_1, .int .i64 a0_2, .int .i64 a0_3]) (t:=26) ?hr ?_;(case hd => rfl);(case hg => rfl);(case hr => first | (go_simp;done) | (go_simp;rfl));intro gb286 hg w18 hbox hb;have n0_:=Aside0.mk (below_step (by repeat (first | (with_reducible first | exact HB.out | apply below_alloc | apply pw_below_drewN | apply below_drew1) | exact HB.out)) hb);have n1_:=Aside0.mk (hbox);have n2_:=Aside0.mk ((by rw [hg];exact (below_size (by repeat (first | (with_reducible first | exact HB.out | apply below_alloc | apply pw_below_drewN | apply below_drew1) | exact HB.out))) : w.heap.size ≤ gb286));have n3_:=Aside0.mk ((by rw [hg];exact (below_size (by repeat (first | (with_reducible first | exact HB.out | apply below_alloc | apply pw_below_drewN | apply below_drew1) | exact HB.out))) : w.heap.size ≤ gb286));clear HB;have HB:=n0_;have BK286:=n1_;have GW286:=n2_;have GE286:=n3_;clear n0_ n1_ n2_ n3_;clear hb hbox hg;have hcz19_0 : w18.cell? ⟨gb286,0,none⟩ = some (.int .i64 a0_0):=(blk_cell BK286.out 0).trans rfl;have hcz19_1 : w18.cell? ⟨gb286,1,none⟩ = some (.int .i64 a0_1):=(blk_cell BK286.out 1).trans rfl;have hcz19_2 : w18.cell? ⟨gb286,2,none⟩ = some (.int .i64 a0_2):=(blk_cell BK286.out 2).trans rfl;have hcz19_3 : w18.cell? ⟨gb286,3,none⟩ = some (.int .i64 a0_3):=(blk_cell BK286.out 3).trans rfl;have hfz19_0:=blk_frozen BK286.out 0;have hfz19_1:=blk_frozen BK286.out 1;have hfz19_2:=blk_frozen BK286.out 2;have hfz19_3:=blk_frozen BK286.out 3))
       go_ret
       exact ⟨by first | rfl | (simp [errW_none,errW_some] <;> rfl) | (simp [*,errW_none,errW_some] <;> rfl),by repeat (first | (with_reducible first | exact HB.out | apply below_alloc | apply pw_below_drewN | apply below_drew1 | refine below_set ?_ GE286.out) | exact HB.out)⟩
    ·rw [if_neg c5] at H
     have c5b0 : decide (a0_1 ≤ 16) = false:=decide_eq_false c5
     clear c5
     obtain rfl:=Option.some.inj H
     go_enter Try.func57,Try.ntmps57
     go_wp2_with (first | ((with_reducible refine gate_dst (N:=1) rfl ?_);refine box_event ?hg (N:=1) ?hd (cs := #[.int .i64 a0_0, .int .i64 a0_1, .int .i64 a0_2, .int .i64 a0_3]) (t:=26) ?hr ?_;(case hd => rfl);(case hg => rfl);(case hr => first | (go_simp;done) | (go_simp;rfl));intro gb286 hg w20 hbox hb;have n0_:=Aside0.mk (below_step (by repeat (first | (with_reducible first | exact HB.out | apply below_alloc | apply pw_below_drewN | apply below_drew1) | exact HB.out)) hb);have n1_:=Aside0.mk (hbox);have n2_:=Aside0.mk ((by rw [hg];exact (below_size (by repeat (first | (with_reducible first | exact HB.out | apply below_alloc | apply pw_below_drewN | apply below_drew1) | exact HB.out))) : w.heap.size ≤ gb286));have n3_:=Aside0.mk ((by rw [hg];exact (below_size (by repeat (first | (with_reducible first | exact HB.out | apply below_alloc | apply pw_below_drewN | apply below_drew1) | exact HB.out))) : w.heap.size ≤ gb286));clear HB;have HB:=n0_;have BK286:=n1_;have GW286:=n2_;have GE286:=n3_;clear n0_ n1_ n2_ n3_;clear hb hbox hg;have hcz21_0 : w20.cell? ⟨gb286,0,none⟩ = some (.int .i64 a0_0):=(blk_cell BK286.out 0).trans rfl;have hcz21_1 : w20.cell? ⟨gb286,1,none⟩ = some (.int .i64 a0_1):=(blk_cell BK286.out 1).trans rfl;have hcz21_2 : w20.cell? ⟨gb286,2,none⟩ = some (.int .i64 a0_2):=(blk_cell BK286.out 2).trans rfl;have hcz21_3 : w20.cell? ⟨gb286,3,none⟩ = some (.int .i64 a0_3):=(blk_cell BK286.out 3).trans rfl;have hfz21_0:=blk_frozen BK286.out 0;have hfz21_1:=blk_frozen BK286.out 1;have hfz21_2:=blk_frozen BK286.out 2;have hfz21_3:=blk_frozen BK286.out 3))
     go_ret
     exact ⟨by first | rfl | (simp [errW_none,errW_some] <;> rfl) | (simp [*,errW_none,errW_some] <;> rfl),by repeat (first | (with_reducible first | exact HB.out | apply below_alloc | apply pw_below_drewN | apply below_drew1 | refine below_set ?_ GE286.out) | exact HB.out)⟩
   ·rw [if_neg c4] at H
    have c4b0 : decide (1 ≤ a0_1) = false:=decide_eq_false c4
    clear c4
    obtain rfl:=Option.some.inj H
    go_enter Try.func57,Try.ntmps57
    go_wp2_with (first | ((with_reducible refine gate_dst (N:=1) rfl ?_);refine box_event ?hg (N:=1) ?hd (cs := #[.int .i64 a0_0, .int .i64 a0_1, .int .i64 a0_2, .int .i64 a0_3]) (t:=26) ?hr ?_;(case hd => rfl);(case hg => rfl);(case hr => first | (go_simp;done) | (go_simp;rfl));intro gb286 hg w22 hbox hb;have n0_:=Aside0.mk (below_step (by repeat (first | (with_reducible first | exact HB.out | apply below_alloc | apply pw_below_drewN | apply below_drew1) | exact HB.out)) hb);have n1_:=Aside0.mk (hbox);have n2_:=Aside0.mk ((by rw [hg];exact (below_size (by repeat (first | (with_reducible first | exact HB.out | apply below_alloc | apply pw_below_drewN | apply below_drew1) | exact HB.out))) : w.heap.size ≤ gb286));have n3_:=Aside0.mk ((by rw [hg];exact (below_size (by repeat (first | (with_reducible first | exact HB.out | apply below_alloc | apply pw_below_drewN | apply below_drew1) | exact HB.out))) : w.heap.size ≤ gb286));clear HB;have HB:=n0_;have BK286:=n1_;have GW286:=n2_;have GE286:=n3_;clear n0_ n1_ n2_ n3_;clear hb hbox hg;have hcz23_0 : w22.cell? ⟨gb286,0,none⟩ = some (.int .i64 a0_0):=(blk_cell BK286.out 0).trans rfl;have hcz23_1 : w22.cell? ⟨gb286,1,none⟩ = some (.int .i64 a0_1):=(blk_cell BK286.out 1).trans rfl;have hcz23_2 : w22.cell? ⟨gb286,2,none⟩ = some (.int .i64 a0_2):=(blk_cell BK286.out 2).trans rfl;have hcz23_3 : w22.cell? ⟨gb286,3,none⟩ = some (.int .i64 a0_3):=(blk_cell BK286.out 3).trans rfl;have hfz23_0:=blk_frozen BK286.out 0;have hfz23_1:=blk_frozen BK286.out 1;have hfz23_2:=blk_frozen BK286.out 2;have hfz23_3:=blk_frozen BK286.out 3))
    go_ret
    exact ⟨by first | rfl | (simp [errW_none,errW_some] <;> rfl) | (simp [*,errW_none,errW_some] <;> rfl),by repeat (first | (with_reducible first | exact HB.out | apply below_alloc | apply pw_below_drewN | apply below_drew1 | refine below_set ?_ GE286.out) | exact HB.out)⟩
  ·rw [if_neg c3] at H
   have c3b0 : decide (a0_0 ≤ 8) = false:=decide_eq_false c3
   clear c3
   obtain rfl:=Option.some.inj H
   go_enter Try.func57,Try.ntmps57
   go_wp2_with (first | ((with_reducible refine gate_dst (N:=1) rfl ?_);refine box_event ?hg (N:=1) ?hd (cs := #[.int .i64 a0_0, .int .i64 a0_1, .int .i64 a0_2, .int .i64 a0_3]) (t:=26) ?hr ?_;(case hd => rfl);(case hg => rfl);(case hr => first | (go_simp;done) | (go_simp;rfl));intro gb286 hg w24 hbox hb;have n0_:=Aside0.mk (below_step (by repeat (first | (with_reducible first | exact HB.out | apply below_alloc | apply pw_below_drewN | apply below_drew1) | exact HB.out)) hb);have n1_:=Aside0.mk (hbox);have n2_:=Aside0.mk ((by rw [hg];exact (below_size (by repeat (first | (with_reducible first | exact HB.out | apply below_alloc | apply pw_below_drewN | apply below_drew1) | exact HB.out))) : w.heap.size ≤ gb286));have n3_:=Aside0.mk ((by rw [hg];exact (below_size (by repeat (first | (with_reducible first | exact HB.out | apply below_alloc | apply pw_below_drewN | apply below_drew1) | exact HB.out))) : w.heap.size ≤ gb286));clear HB;have HB:=n0_;have BK286:=n1_;have GW286:=n2_;have GE286:=n3_;clear n0_ n1_ n2_ n3_;clear hb hbox hg;have hcz25_0 : w24.cell? ⟨gb286,0,none⟩ = some (.int .i64 a0_0):=(blk_cell BK286.out 0).trans rfl;have hcz25_1 : w24.cell? ⟨gb286,1,none⟩ = some (.int .i64 a0_1):=(blk_cell BK286.out 1).trans rfl;have hcz25_2 : w24.cell? ⟨gb286,2,none⟩ = some (.int .i64 a0_2):=(blk_cell BK286.out 2).trans rfl;have hcz25_3 : w24.cell? ⟨gb286,3,none⟩ = some (.int .i64 a0_3):=(blk_cell BK286.out 3).trans rfl;have hfz25_0:=blk_frozen BK286.out 0;have hfz25_1:=blk_frozen BK286.out 1;have hfz25_2:=blk_frozen BK286.out 2;have hfz25_3:=blk_frozen BK286.out 3))
   go_ret
   exact ⟨by first | rfl | (simp [errW_none,errW_some] <;> rfl) | (simp [*,errW_none,errW_some] <;> rfl),by repeat (first | (with_reducible first | exact HB.out | apply below_alloc | apply pw_below_drewN | apply below_drew1 | refine below_set ?_ GE286.out) | exact HB.out)⟩
 ·rw [if_neg c2] at H
  have c2b0 : decide (1 ≤ a0_0) = false:=decide_eq_false c2
  clear c2
  obtain rfl:=Option.some.inj H
  go_enter Try.func57,Try.ntmps57
  go_wp2_with (first | ((with_reducible refine gate_dst (N:=1) rfl ?_);refine box_event ?hg (N:=1) ?hd (cs := #[.int .i64 a0_0, .int .i64 a0_1, .int .i64 a0_2, .int .i64 a0_3]) (t:=26) ?hr ?_;(case hd => rfl);(case hg => rfl);(case hr => first | (go_simp;done) | (go_simp;rfl));intro gb286 hg w26 hbox hb;have n0_:=Aside0.mk (below_step (by repeat (first | (with_reducible first | exact HB.out | apply below_alloc | apply pw_below_drewN | apply below_drew1) | exact HB.out)) hb);have n1_:=Aside0.mk (hbox);have n2_:=Aside0.mk ((by rw [hg];exact (below_size (by repeat (first | (with_reducible first | exact HB.out | apply below_alloc | apply pw_below_drewN | apply below_drew1) | exact HB.out))) : w.heap.size ≤ gb286));have n3_:=Aside0.mk ((by rw [hg];exact (below_size (by repeat (first | (with_reducible first | exact HB.out | apply below_alloc | apply pw_below_drewN | apply below_drew1) | exact HB.out))) : w.heap.size ≤ gb286));clear HB;have HB:=n0_;have BK286:=n1_;have GW286:=n2_;have GE286:=n3_;clear n0_ n1_ n2_ n3_;clear hb hbox hg;have hcz27_0 : w26.cell? ⟨gb286,0,none⟩ = some (.int .i64 a0_0):=(blk_cell BK286.out 0).trans rfl;have hcz27_1 : w26.cell? ⟨gb286,1,none⟩ = some (.int .i64 a0_1):=(blk_cell BK286.out 1).trans rfl;have hcz27_2 : w26.cell? ⟨gb286,2,none⟩ = some (.int .i64 a0_2):=(blk_cell BK286.out 2).trans rfl;have hcz27_3 : w26.cell? ⟨gb286,3,none⟩ = some (.int .i64 a0_3):=(blk_cell BK286.out 3).trans rfl;have hfz27_0:=blk_frozen BK286.out 0;have hfz27_1:=blk_frozen BK286.out 1;have hfz27_2:=blk_frozen BK286.out 2;have hfz27_3:=blk_frozen BK286.out 3))
  go_ret
  exact ⟨by first | rfl | (simp [errW_none,errW_some] <;> rfl) | (simp [*,errW_none,errW_some] <;> rfl),by repeat (first | (with_reducible first | exact HB.out | apply below_alloc | apply pw_below_drewN | apply below_drew1 | refine below_set ?_ GE286.out) | exact HB.out)⟩
def spec_l3okFilters.l0 : Nat → List (S89) → Int → Option (Bool)
 | 0,_,_ => none
 | k + 1,x0,x3 => if x3 < (x0.length : Int) then (if 0 ≤ x3 then (if (rd_T89 x0 x3).f0 = true then (if ((rd_T89 x0 x3).f1) ≥ 536870912 then (some false) else (if ((rd_T89 x0 x3).f2) ≥ 536870912 then (some false) else (spec_l3okFilters.l0 k x0 (wrap64 (x3 + 1))))) else (if ((rd_T89 x0 x3).f1) ≥ 2048 then (some false) else (if ((rd_T89 x0 x3).f2) ≥ 2048 then (some false) else (spec_l3okFilters.l0 k x0 (wrap64 (x3 + 1)))))) else (none)) else (some true)
def spec_l3okFilters.f (k : Nat) (l0 : List (S89)) : Option (Bool):=if (l0.length : Int) > 16 then (some false) else (spec_l3okFilters.l0 k l0 0)
set_option maxHeartbeats 8000000 in
set_option maxRecDepth 100000 in
theorem spec_l3okFilters.calls (k : Nat) (A0 : Option Addr) (c0 : Nat) (l0 : List (S89)) (r : Bool) (w : World) (hr0 : Kd.C k89 w A0 l0.length l0) (hc0 : l0.length ≤ c0) (h : spec_l3okFilters.f k l0 = some r) :
  Calls Try.prog 58 #[.slice A0 l0.length c0] w fun e w' => e = .returned (.bool r) ∧ Drawn0 w w':=by
 have HR0:=Aside0.mk hr0
 have HC0:=Aside0.mk hc0
 clear hr0 hc0
 have H : (if (l0.length : Int) > 16 then (some false) else (spec_l3okFilters.l0 k l0 0)) = some r:=h
 clear h
 by_cases c2 : (l0.length : Int) > 16
 ·rw [if_pos c2] at H
  have c2b0 : decide (16 < (l0.length : Int)) = true:=decide_eq_true c2
  have c2b1 : decide (16 < l0.length) = true:=decide_eq_true (by omega)
  clear c2
  obtain rfl:=Option.some.inj H
  go_enter Try.func58,Try.ntmps58
  go_wp2
  go_ret
  exact ⟨by first | rfl | (simp;done) | (simp [*];done),by repeat (first | exact Drawn0.refl _ | apply Drawn0.step)⟩
 ·rw [if_neg c2] at H
  have c2b0 : decide (16 < (l0.length : Int)) = false:=decide_eq_false c2
  have c2b1 : decide (16 < l0.length) = false:=decide_eq_false (by omega)
  clear c2
  have H':=Aside0.mk H
  clear H
  go_enter Try.func58,Try.ntmps58
  go_wp2
  go_loopg [3] k (fun kq v3 w' => ∃ (x3_1 : Int),v3 = .int .i64 x3_1 ∧ Aside0 (spec_l3okFilters.l0 kq l0 x3_1 = some r) ∧ Aside0 (kq ≤ k) ∧ Drawn0 w w')
  case atStart => exact ⟨(0),(by first | rfl | (simp;done) | (simp [*];done)),H',⟨Nat.le_refl _⟩,by repeat (first | exact Drawn0.refl _ | apply Drawn0.step)⟩
  case round =>
   clear H'
   try clear c2
   try clear c2b0
   try clear c2b1
   try clear p2
   obtain ⟨x3_1,rfl,HA,HK1,⟨m1,rfl⟩⟩:=hrel
   cases gk with
   | zero => exact absurd HA.out (by simp [spec_l3okFilters.l0])
   | succ k1 =>
    have H:=HA.out
    clear HA
    simp only [spec_l3okFilters.l0] at H
    by_cases c3 : x3_1 < (l0.length : Int)
    ·rw [if_pos c3] at H
     have c3b0 : decide (x3_1 < (l0.length : Int)) = true:=decide_eq_true c3
     clear c3
     by_cases c4 : 0 ≤ x3_1
     ·rw [if_pos c4] at H
      have c4b0 : decide (0 ≤ x3_1) = true:=decide_eq_true c4
      clear c4
      obtain ⟨bq5,hbq5⟩ : ∃ b_ : Bool,b_ = ((rd_T89 l0 x3_1).f0):=⟨_,rfl⟩
      replace H : (if bq5 = true then (if ((rd_T89 l0 x3_1).f1) ≥ 536870912 then (some false) else (if ((rd_T89 l0 x3_1).f2) ≥ 536870912 then (some false) else (spec_l3okFilters.l0 k1 l0 (wrap64 (x3_1 + 1))))) else (if ((rd_T89 l0 x3_1).f1) ≥ 2048 then (some false) else (if ((rd_T89 l0 x3_1).f2) ≥ 2048 then (some false) else (spec_l3okFilters.l0 k1 l0 (wrap64 (x3_1 + 1)))))) = some r:=by rw [← hbq5] at H;exact H
      have Nbq5:=Aside0.mk hbq5
      clear hbq5
      by_cases c6 : bq5 = true
      ·subst c6
       have H1 : (if ((rd_T89 l0 x3_1).f1) ≥ 536870912 then (some false) else (if ((rd_T89 l0 x3_1).f2) ≥ 536870912 then (some false) else (spec_l3okFilters.l0 k1 l0 (wrap64 (x3_1 + 1))))) = some r:=by rw [if_pos rfl] at H;exact H
       clear H
       have H:=H1
       clear H1
       by_cases c7 : ((rd_T89 l0 x3_1).f1) ≥ 536870912
       ·rw [if_pos c7] at H
        have c7b0 : decide (536870912 ≤ ((rd_T89 l0 x3_1).f1)) = true:=decide_eq_true c7
        clear c7
        obtain rfl:=Option.some.inj H
        have p287 : 0 ≤ (x3_1 : Int):=of_decide_eq_true (by first | (with_reducible assumption) | assumption)
        have q287 : x3_1 < (l0.length : Int):=of_decide_eq_true (by first | (with_reducible assumption) | assumption)
        obtain ⟨ad287,e287,hx287_0,hx287_1,hx287_2⟩:=at_T89 HR0.out x3_1 p287 q287
        (try rw [← Nbq5.out] at hx287_0)
        cases e287
        replace p287:=eq_true p287
        replace q287:=eq_true q287
        have p288 : 0 ≤ (x3_1 : Int):=of_decide_eq_true (by first | (with_reducible assumption) | assumption)
        have q288 : x3_1 < (l0.length : Int):=of_decide_eq_true (by first | (with_reducible assumption) | assumption)
        obtain ⟨ad288,e288,hx288_0,hx288_1,hx288_2⟩:=at_T89 HR0.out x3_1 p288 q288
        (try rw [← Nbq5.out] at hx288_0)
        obtain rfl : ad287 = ad288:=(by injection e288)
        replace p288:=eq_true p288
        replace q288:=eq_true q288
        go_wp2
        go_ret
        exact ⟨by first | rfl | (simp;done) | (simp [*];done),by repeat (first | exact Drawn0.refl _ | apply Drawn0.step)⟩
       ·rw [if_neg c7] at H
        have c7b0 : decide (536870912 ≤ ((rd_T89 l0 x3_1).f1)) = false:=decide_eq_false c7
        clear c7
        by_cases c8 : ((rd_T89 l0 x3_1).f2) ≥ 536870912
        ·rw [if_pos c8] at H
         have c8b0 : decide (536870912 ≤ ((rd_T89 l0 x3_1).f2)) = true:=decide_eq_true c8
         clear c8
         obtain rfl:=Option.some.inj H
         have p287 : 0 ≤ (x3_1 : Int):=of_decide_eq_true (by first | (with_reducible assumption) | assumption)
         have q287 : x3_1 < (l0.length : Int):=of_decide_eq_true (by first | (with_reducible assumption) | assumption)
         obtain ⟨ad287,e287,hx287_0,hx287_1,hx287_2⟩:=at_T89 HR0.out x3_1 p287 q287
         (try rw [← Nbq5.out] at hx287_0)
         cases e287
         replace p287:=eq_true p287
         replace q287:=eq_true q287
         have p288 : 0 ≤ (x3_1 : Int):=of_decide_eq_true (by first | (with_reducible assumption) | assumption)
         have q288 : x3_1 < (l0.length : Int):=of_decide_eq_true (by first | (with_reducible assumption) | assumption)
         obtain ⟨ad288,e288,hx288_0,hx288_1,hx288_2⟩:=at_T89 HR0.out x3_1 p288 q288
         (try rw [← Nbq5.out] at hx288_0)
         obtain rfl : ad287 = ad288:=(by injection e288)
         replace p288:=eq_true p288
         replace q288:=eq_true q288
         have p289 : 0 ≤ (x3_1 : Int):=of_decide_eq_true (by first | (with_reducible assumption) | assumption)
         have q289 : x3_1 < (l0.length : Int):=of_decide_eq_true (by first | (with_reducible assumption) | assumption)
         obtain ⟨ad289,e289,hx289_0,hx289_1,hx289_2⟩:=at_T89 HR0.out x3_1 p289 q289
         (try rw [← Nbq5.out] at hx289_0)
         obtain rfl : ad287 = ad289:=(by injection e289)
         replace p289:=eq_true p289
         replace q289:=eq_true q289
         go_wp2
         go_ret
         exact ⟨by first | rfl | (simp;done) | (simp [*];done),by repeat (first | exact Drawn0.refl _ | apply Drawn0.step)⟩
        ·rw [if_neg c8] at H
         have c8b0 : decide (536870912 ≤ ((rd_T89 l0 x3_1).f2)) = false:=decide_eq_false c8
         clear c8
         have H':=Aside0.mk H
         clear H
         have p287 : 0 ≤ (x3_1 : Int):=of_decide_eq_true (by first | (with_reducible assumption) | assumption)
         have q287 : x3_1 < (l0.length : Int):=of_decide_eq_true (by first | (with_reducible assumption) | assumption)
         obtain ⟨ad287,e287,hx287_0,hx287_1,hx287_2⟩:=at_T89 HR0.out x3_1 p287 q287
         (try rw [← Nbq5.out] at hx287_0)
         cases e287
         replace p287:=eq_true p287
         replace q287:=eq_true q287
         have p288 : 0 ≤ (x3_1 : Int):=of_decide_eq_true (by first | (with_reducible assumption) | assumption)
         have q288 : x3_1 < (l0.length : Int):=of_decide_eq_true (by first | (with_reducible assumption) | assumption)
         obtain ⟨ad288,e288,hx288_0,hx288_1,hx288_2⟩:=at_T89 HR0.out x3_1 p288 q288
         (try rw [← Nbq5.out] at hx288_0)
         obtain rfl : ad287 = ad288:=(by injection e288)
         replace p288:=eq_true p288
         replace q288:=eq_true q288
         have p289 : 0 ≤ (x3_1 : Int):=of_decide_eq_true (by first | (with_reducible assumption) | assumption)
         have q289 : x3_1 < (l0.length : Int):=of_decide_eq_true (by first | (with_reducible assumption) | assumption)
         obtain ⟨ad289,e289,hx289_0,hx289_1,hx289_2⟩:=at_T89 HR0.out x3_1 p289 q289
         (try rw [← Nbq5.out] at hx289_0)
         obtain rfl : ad287 = ad289:=(by injection e289)
         replace p289:=eq_true p289
         replace q289:=eq_true q289
         go_wp2
         go_roundg k1
         case measure => have:=HK1.out;omega
         case rel => exact ⟨(wrap64 (x3_1 + 1)),(by first | rfl | (simp;done) | (simp [*];done)),H',⟨by have:=HK1.out;omega⟩,by repeat (first | exact Drawn0.refl _ | apply Drawn0.step)⟩
      ·replace c6:=Bool.eq_false_iff.mpr c6
       subst c6
       have H1 : (if ((rd_T89 l0 x3_1).f1) ≥ 2048 then (some false) else (if ((rd_T89 l0 x3_1).f2) ≥ 2048 then (some false) else (spec_l3okFilters.l0 k1 l0 (wrap64 (x3_1 + 1))))) = some r:=by rw [if_neg (show ¬ (false = true) by decide)] at H;exact H
       clear H
       have H:=H1
       clear H1
       by_cases c9 : ((rd_T89 l0 x3_1).f1) ≥ 2048
       ·rw [if_pos c9] at H
        have c9b0 : decide (2048 ≤ ((rd_T89 l0 x3_1).f1)) = true:=decide_eq_true c9
        clear c9
        obtain rfl:=Option.some.inj H
        have p287 : 0 ≤ (x3_1 : Int):=of_decide_eq_true (by first | (with_reducible assumption) | assumption)
        have q287 : x3_1 < (l0.length : Int):=of_decide_eq_true (by first | (with_reducible assumption) | assumption)
        obtain ⟨ad287,e287,hx287_0,hx287_1,hx287_2⟩:=at_T89 HR0.out x3_1 p287 q287
        (try rw [← Nbq5.out] at hx287_0)
        cases e287
        replace p287:=eq_true p287
        replace q287:=eq_true q287
        have p290 : 0 ≤ (x3_1 : Int):=of_decide_eq_true (by first | (with_reducible assumption) | assumption)
        have q290 : x3_1 < (l0.length : Int):=of_decide_eq_true (by first | (with_reducible assumption) | assumption)
        obtain ⟨ad290,e290,hx290_0,hx290_1,hx290_2⟩:=at_T89 HR0.out x3_1 p290 q290
        (try rw [← Nbq5.out] at hx290_0)
        obtain rfl : ad287 = ad290:=(by injection e290)
        replace p290:=eq_true p290
        replace q290:=eq_true q290
        go_wp2
        go_ret
        exact ⟨by first | rfl | (simp;done) | (simp [*];done),by repeat (first | exact Drawn0.refl _ | apply Drawn0.step)⟩
       ·rw [if_neg c9] at H
        have c9b0 : decide (2048 ≤ ((rd_T89 l0 x3_1).f1)) = false:=decide_eq_false c9
        clear c9
        by_cases c10 : ((rd_T89 l0 x3_1).f2) ≥ 2048
        ·rw [if_pos c10] at H
         have c10b0 : decide (2048 ≤ ((rd_T89 l0 x3_1).f2)) = true:=decide_eq_true c10
         clear c10
         obtain rfl:=Option.some.inj H
         have p287 : 0 ≤ (x3_1 : Int):=of_decide_eq_true (by first | (with_reducible assumption) | assumption)
         have q287 : x3_1 < (l0.length : Int):=of_decide_eq_true (by first | (with_reducible assumption) | assumption)
         obtain ⟨ad287,e287,hx287_0,hx287_1,hx287_2⟩:=at_T89 HR0.out x3_1 p287 q287
         (try rw [← Nbq5.out] at hx287_0)
         cases e287
         replace p287:=eq_true p287
         replace q287:=eq_true q287
         have p290 : 0 ≤ (x3_1 : Int):=of_decide_eq_true (by first | (with_reducible assumption) | assumption)
         have q290 : x3_1 < (l0.length : Int):=of_decide_eq_true (by first | (with_reducible assumption) | assumption)
         obtain ⟨ad290,e290,hx290_0,hx290_1,hx290_2⟩:=at_T89 HR0.out x3_1 p290 q290
         (try rw [← Nbq5.out] at hx290_0)
         obtain rfl : ad287 = ad290:=(by injection e290)
         replace p290:=eq_true p290
         replace q290:=eq_true q290
         have p291 : 0 ≤ (x3_1 : Int):=of_decide_eq_true (by first | (with_reducible assumption) | assumption)
         have q291 : x3_1 < (l0.length : Int):=of_decide_eq_true (by first | (with_reducible assumption) | assumption)
         obtain ⟨ad291,e291,hx291_0,hx291_1,hx291_2⟩:=at_T89 HR0.out x3_1 p291 q291
         (try rw [← Nbq5.out] at hx291_0)
         obtain rfl : ad287 = ad291:=(by injection e291)
         replace p291:=eq_true p291
         replace q291:=eq_true q291
         go_wp2
         go_ret
         exact ⟨by first | rfl | (simp;done) | (simp [*];done),by repeat (first | exact Drawn0.refl _ | apply Drawn0.step)⟩
        ·rw [if_neg c10] at H
         have c10b0 : decide (2048 ≤ ((rd_T89 l0 x3_1).f2)) = false:=decide_eq_false c10
         clear c10
         have H':=Aside0.mk H
         clear H
         have p287 : 0 ≤ (x3_1 : Int):=of_decide_eq_true (by first | (with_reducible assumption) | assumption)
         have q287 : x3_1 < (l0.length : Int):=of_decide_eq_true (by first | (with_reducible assumption) | assumption)
         obtain ⟨ad287,e287,hx287_0,hx287_1,hx287_2⟩:=at_T89 HR0.out x3_1 p287 q287
         (try rw [← Nbq5.out] at hx287_0)
         cases e287
         replace p287:=eq_true p287
         replace q287:=eq_true q287
         have p290 : 0 ≤ (x3_1 : Int):=of_decide_eq_true (by first | (with_reducible assumption) | assumption)
         have q290 : x3_1 < (l0.length : Int):=of_decide_eq_true (by first | (with_reducible assumption) | assumption)
         obtain ⟨ad290,e290,hx290_0,hx290_1,hx290_2⟩:=at_T89 HR0.out x3_1 p290 q290
         (try rw [← Nbq5.out] at hx290_0)
         obtain rfl : ad287 = ad290:=(by injection e290)
         replace p290:=eq_true p290
         replace q290:=eq_true q290
         have p291 : 0 ≤ (x3_1 : Int):=of_decide_eq_true (by first | (with_reducible assumption) | assumption)
         have q291 : x3_1 < (l0.length : Int):=of_decide_eq_true (by first | (with_reducible assumption) | assumption)
         obtain ⟨ad291,e291,hx291_0,hx291_1,hx291_2⟩:=at_T89 HR0.out x3_1 p291 q291
         (try rw [← Nbq5.out] at hx291_0)
         obtain rfl : ad287 = ad291:=(by injection e291)
         replace p291:=eq_true p291
         replace q291:=eq_true q291
         go_wp2
         go_roundg k1
         case measure => have:=HK1.out;omega
         case rel => exact ⟨(wrap64 (x3_1 + 1)),(by first | rfl | (simp;done) | (simp [*];done)),H',⟨by have:=HK1.out;omega⟩,by repeat (first | exact Drawn0.refl _ | apply Drawn0.step)⟩
     ·rw [if_neg c4] at H
      exact absurd H (by simp)
    ·rw [if_neg c3] at H
     have c3b0 : decide (x3_1 < (l0.length : Int)) = false:=decide_eq_false c3
     clear c3
     obtain rfl:=Option.some.inj H
     go_wp2
     go_ret
     exact ⟨by first | rfl | (simp;done) | (simp [*];done),by repeat (first | exact Drawn0.refl _ | apply Drawn0.step)⟩
def spec_l1copyFrame.l0 : Nat → List Int → Int → Bool → Int → Bool → Int → List Int → Option (Bool × Int × Bool × Int × List Int)
 | 0,_,_,_,_,_,_,_ => none
 | k + 1,x3,x4,x293000,x293001,x293002,x293003,x293004 => if x4 < (x293004.length : Int) then (if 0 ≤ x4 then (if x3.length < 140737488355328 then (spec_l1copyFrame.l0 k (x3 ++ [rd x293004 x4]) (wrap64 (x4 + 1)) x293000 x293001 x293002 x293003 x293004) else (none)) else (none)) else (some (x293000,x293001,x293002,x293003,x3))
def spec_l1copyFrame.f (k : Nat) (a0_0 : Bool) (a0_1 : Int) (a0_2 : Bool) (a0_3 : Int) (l0_4 : List Int) : Option (Bool × Int × Bool × Int × List Int):=spec_l1copyFrame.l0 k (([] : List Int)) 0 a0_0 a0_1 a0_2 a0_3 l0_4
def spec_l3copyEvents.l0 : Nat → List (S56) → List (S56) → Int → Option ((List (S56)))
 | 0,_,_,_ => none
 | k + 1,x0,x3,x4 => if x4 < (x0.length : Int) then (if 0 ≤ x4 then ((spec_l1copyFrame.f k ((rd_T56 x0 x4).f3.f0) ((rd_T56 x0 x4).f3.f1) ((rd_T56 x0 x4).f3.f2) ((rd_T56 x0 x4).f3.f3) ((rd_T56 x0 x4).f3.f4)).bind fun bt306 => (if x3.length < 1954687338268 then (spec_l3copyEvents.l0 k x0 (x3 ++ [(⟨(rd_T56 x0 x4).f0,(rd_T56 x0 x4).f1,(rd_T56 x0 x4).f2,(⟨bt306.1,bt306.2.1,bt306.2.2.1,bt306.2.2.2.1,bt306.2.2.2.2⟩ : S45)⟩ : S56)]) (wrap64 (x4 + 1))) else (none))) else (none)) else (some x3)
def spec_l3copyEvents.f (k : Nat) (l0 : List (S56)) : Option ((List (S56))):=spec_l3copyEvents.l0 k l0 (([] : List (S56))) 0
def spec_l3copyBox.f (k : Nat) (a0_0 : Int) (a0_1 : Int) (a0_2 : Int) (a0_3 : Bool) (a0_4 : Int) (a0_5 : Bool) (a0_6 : Int) (l0_7 : List Int) : Option (Int × Int × Int × Bool × Int × Bool × Int × List Int):=(spec_l1copyFrame.f k a0_3 a0_4 a0_5 a0_6 l0_7).bind fun bt318 => (some (a0_0,a0_1,a0_2,bt318.1,bt318.2.1,bt318.2.2.1,bt318.2.2.2.1,bt318.2.2.2.2))
mutual
def spec_l3copy.l0 : Nat → Int → Int → Int → Int → Int → List (S89) → List (S87) → List (S45) → List (S56) → Int → Int → Int → Int → Int → Int → List (S89) → List (S87) → List (S45) → List (S56) → Int → Int → Option (Int × Int × Int × Int × (List (S89)) × (List (S87)) × (List (S45)) × (List (S56)) × Int × Int)
 | 0,_,_,_,_,_,_,_,_,_,_,_,_,_,_,_,_,_,_,_,_,_ => none
 | k + 1,x4,x326000,x326001,x326002,x326003,x326004,x326005,x326006,x326007,x326008,x326009,x328000,x328001,x328002,x328003,x328004,x328005,x328006,x328007,x328008,x328009 => if x4 < (x326004.length : Int) then (if 0 ≤ x4 then (if x328004.length < 11728124029610 then (spec_l3copy.l0 k (wrap64 (x4 + 1)) x326000 x326001 x326002 x326003 x326004 x326005 x326006 x326007 x326008 x326009 x328000 x328001 x328002 x328003 (x328004 ++ [(⟨(rd_T89 x326004 x4).f0,(rd_T89 x326004 x4).f1,(rd_T89 x326004 x4).f2⟩ : S89)]) x328005 x328006 x328007 x328008 x328009) else (none)) else (none)) else (spec_l3copy.l1 k 0 x326000 x326001 x326002 x326003 x326004 x326005 x326006 x326007 x326008 x326009 x328000 x328001 x328002 x328003 x328004 (([] : List (S87))) x328006 x328007 x328008 x328009)
def spec_l3copy.l1 : Nat → Int → Int → Int → Int → Int → List (S89) → List (S87) → List (S45) → List (S56) → Int → Int → Int → Int → Int → Int → List (S89) → List (S87) → List (S45) → List (S56) → Int → Int → Option (Int × Int × Int × Int × (List (S89)) × (List (S87)) × (List (S45)) × (List (S56)) × Int × Int)
 | 0,_,_,_,_,_,_,_,_,_,_,_,_,_,_,_,_,_,_,_,_,_ => none
 | k + 1,x5,x326000,x326001,x326002,x326003,x326004,x326005,x326006,x326007,x326008,x326009,x328000,x328001,x328002,x328003,x328004,x328005,x328006,x328007,x328008,x328009 => if x5 < (x326005.length : Int) then (if 0 ≤ x5 then ((spec_l3copyBox.f k ((rd_T87 x326005 x5).f0) ((rd_T87 x326005 x5).f1) ((rd_T87 x326005 x5).f2) ((rd_T87 x326005 x5).f3.f0) ((rd_T87 x326005 x5).f3.f1) ((rd_T87 x326005 x5).f3.f2) ((rd_T87 x326005 x5).f3.f3) ((rd_T87 x326005 x5).f3.f4)).bind fun bt339 => (if x328005.length < 1954687338268 then (spec_l3copy.l1 k (wrap64 (x5 + 1)) x326000 x326001 x326002 x326003 x326004 x326005 x326006 x326007 x326008 x326009 x328000 x328001 x328002 x328003 x328004 (x328005 ++ [(⟨bt339.1,bt339.2.1,bt339.2.2.1,(⟨bt339.2.2.2.1,bt339.2.2.2.2.1,bt339.2.2.2.2.2.1,bt339.2.2.2.2.2.2.1,bt339.2.2.2.2.2.2.2⟩ : S45)⟩ : S87)]) x328006 x328007 x328008 x328009) else (none))) else (none)) else (spec_l3copy.l2 k 0 x326000 x326001 x326002 x326003 x326004 x326005 x326006 x326007 x326008 x326009 x328000 x328001 x328002 x328003 x328004 x328005 (([] : List (S45))) x328007 x328008 x328009)
def spec_l3copy.l2 : Nat → Int → Int → Int → Int → Int → List (S89) → List (S87) → List (S45) → List (S56) → Int → Int → Int → Int → Int → Int → List (S89) → List (S87) → List (S45) → List (S56) → Int → Int → Option (Int × Int × Int × Int × (List (S89)) × (List (S87)) × (List (S45)) × (List (S56)) × Int × Int)
 | 0,_,_,_,_,_,_,_,_,_,_,_,_,_,_,_,_,_,_,_,_,_ => none
 | k + 1,x6,x326000,x326001,x326002,x326003,x326004,x326005,x326006,x326007,x326008,x326009,x328000,x328001,x328002,x328003,x328004,x328005,x328006,x328007,x328008,x328009 => if x6 < (x326006.length : Int) then (if 0 ≤ x6 then ((spec_l1copyFrame.f k ((rd_T45 x326006 x6).f0) ((rd_T45 x326006 x6).f1) ((rd_T45 x326006 x6).f2) ((rd_T45 x326006 x6).f3) ((rd_T45 x326006 x6).f4)).bind fun bt356 => (if x328006.length < 2932031007402 then (spec_l3copy.l2 k (wrap64 (x6 + 1)) x326000 x326001 x326002 x326003 x326004 x326005 x326006 x326007 x326008 x326009 x328000 x328001 x328002 x328003 x328004 x328005 (x328006 ++ [(⟨bt356.1,bt356.2.1,bt356.2.2.1,bt356.2.2.2.1,bt356.2.2.2.2⟩ : S45)]) x328007 x328008 x328009) else (none))) else (none)) else ((spec_l3copyEvents.f k x326007).bind fun t366 => (some (x328000,x328001,x328002,x328003,x328004,x328005,x328006,t366,x328008,x328009)))
end
def spec_l3copy.f (k : Nat) (a0_0 : Int) (a0_1 : Int) (a0_2 : Int) (a0_3 : Int) (l0_4 : List (S89)) (l0_5 : List (S87)) (l0_6 : List (S45)) (l0_7 : List (S56)) (a0_8 : Int) (a0_9 : Int) : Option (Int × Int × Int × Int × (List (S89)) × (List (S87)) × (List (S45)) × (List (S56)) × Int × Int):=spec_l3copy.l0 k 0 a0_0 a0_1 a0_2 a0_3 l0_4 l0_5 l0_6 l0_7 a0_8 a0_9 a0_0 a0_1 a0_2 a0_3 (([] : List (S89))) l0_5 l0_6 l0_7 a0_8 a0_9
def spec_NewHost.l0 : Nat → Int → Int → Int → Int → Int → Int → Int → Int → Int → List (S89) → List (S87) → Int → Int → Option (Int × Int × Int × Int × (List (S89)) × (List (S87)) × (List (S45)) × (List (S56)) × Int × Int × Int)
 | 0,_,_,_,_,_,_,_,_,_,_,_,_,_ => none
 | k + 1,x7,x370000,x370001,x370002,x370003,x374000,x374001,x374002,x374003,x374004,x374005,x374008,x374009 => if x7 < x370000 then (if x374005.length < 1954687338268 then (spec_NewHost.l0 k (wrap64 (x7 + 1)) x370000 x370001 x370002 x370003 x374000 x374001 x374002 x374003 x374004 (x374005 ++ [(⟨0,0,0,(⟨false,0,false,0,([] : List Int)⟩ : S45)⟩ : S87)]) x374008 x374009) else (none)) else ((spec_l3copy.f k x374000 x374001 x374002 x374003 x374004 x374005 ([] : List (S45)) ([] : List (S56)) x374008 x374009).bind fun bt377 => (some (bt377.1,bt377.2.1,bt377.2.2.1,bt377.2.2.2.1,bt377.2.2.2.2.1,bt377.2.2.2.2.2.1,bt377.2.2.2.2.2.2.1,bt377.2.2.2.2.2.2.2.1,bt377.2.2.2.2.2.2.2.2.1,bt377.2.2.2.2.2.2.2.2.2,0)))
end Go.Proofs.Ytcaefabbcjlkdaa.P
namespace Go.Proofs.Ytcaefabbcjlkdaa.P
open Go Go.RowKit Go.Proofs.YtcaefabbcjlkdaaW.PrintWords Go.Proofs.YtcaefabbcjlkdaaW.PrintLast Go.Proofs.YtcaefabbcjlkdaaW.PrintMore
set_option linter.unusedVariables false
theorem mx_ge (a b t : Int) : mx a b ≥ t ↔ (a ≥ t ∨ b ≥ t):=by unfold mx;split <;> omega
theorem filters_ev (l : List S89) (hl : l.length ≤ 10000000) : ∃ o,Ev (fun k => impl_goodFilters.f k l) o ∧ Ev (fun k => spec_l3okFilters.f k l) o:=by
 by_cases c : (l.length : Int) > 16
 ·refine ⟨false,Ev.congr (fun k => by unfold impl_goodFilters.f;rw [if_pos c]) (Ev.now _),Ev.congr (fun k => by unfold spec_l3okFilters.f;rw [if_pos c]) (Ev.now _)⟩
 have loop : ∀ (d i : Nat),i + d = l.length → ∃ o,Ev (fun k => impl_goodFilters.l0 k l (l.length : Int) (i : Int)) o ∧ Ev (fun k => spec_l3okFilters.l0 k l (i : Int)) o:=by
  intro d
  induction d with
  | zero =>
   intro i hi
   exact ⟨true,Ev.step (f:=fun _ => some true) (fun k => by simp only [impl_goodFilters.l0];rw [if_neg (by omega)]) (Ev.now _),Ev.step (f:=fun _ => some true) (fun k => by simp only [spec_l3okFilters.l0];rw [if_neg (by omega)]) (Ev.now _)⟩
  | succ d ih =>
   intro i hi
   obtain ⟨o,h1,h2⟩:=ih (i + 1) (by omega)
   have hw : wrap64 ((i : Int) + 1) = ((i + 1 : Nat) : Int):=by rw [w64 (by omega) (by omega)];rfl
   have one : ∀ t : Int,(mx (rd_T89 l (i : Int)).f1 (rd_T89 l (i : Int)).f2 ≥ t → (rd_T89 l (i : Int)).f1 ≥ t ∨ (¬ (rd_T89 l (i : Int)).f1 ≥ t ∧ (rd_T89 l (i : Int)).f2 ≥ t)) ∧ (¬ mx (rd_T89 l (i : Int)).f1 (rd_T89 l (i : Int)).f2 ≥ t → ¬ (rd_T89 l (i : Int)).f1 ≥ t ∧ ¬ (rd_T89 l (i : Int)).f2 ≥ t):=fun t => by rw [mx_ge];omega
   have main : ∀ t : Int, ∃ o',Ev (fun k => if mx (rd_T89 l (i : Int)).f1 (rd_T89 l (i : Int)).f2 ≥ t then some false else impl_goodFilters.l0 k l (l.length : Int) ((i + 1 : Nat) : Int)) o' ∧ Ev (fun k => if (rd_T89 l (i : Int)).f1 ≥ t then some false else if (rd_T89 l (i : Int)).f2 ≥ t then some false else spec_l3okFilters.l0 k l ((i + 1 : Nat) : Int)) o':=by
    intro t
    by_cases q : mx (rd_T89 l (i : Int)).f1 (rd_T89 l (i : Int)).f2 ≥ t
    ·refine ⟨false,ev_pos q (Ev.now _), ?_⟩
     rcases (one t).1 q with g | ⟨g,g'⟩
     ·exact ev_pos g (Ev.now _)
     ·exact ev_neg g (ev_pos g' (Ev.now _))
    ·obtain ⟨g,g'⟩:=(one t).2 q
     exact ⟨o,ev_neg q h1,ev_neg g (ev_neg g' h2)⟩
   by_cases e : (rd_T89 l (i : Int)).f0 = true
   ·obtain ⟨o',g1,g2⟩:=main 536870912
    exact ⟨o',Ev.step (fun k => by simp only [impl_goodFilters.l0];rw [if_pos (by omega),if_pos (by omega),if_pos (by omega),if_pos e,hw]) g1,Ev.step (fun k => by simp only [spec_l3okFilters.l0];rw [if_pos (by omega),if_pos (by omega),if_pos e,hw]) g2⟩
   ·obtain ⟨o',g1,g2⟩:=main 2048
    exact ⟨o',Ev.step (fun k => by simp only [impl_goodFilters.l0];rw [if_pos (by omega),if_pos (by omega),if_pos (by omega),if_neg e,hw]) g1,Ev.step (fun k => by simp only [spec_l3okFilters.l0];rw [if_pos (by omega),if_pos (by omega),if_neg e,hw]) g2⟩
 obtain ⟨o,h1,h2⟩:=loop l.length 0 (by omega)
 exact ⟨o,Ev.congr (fun k => by unfold impl_goodFilters.f;rw [if_neg c];rfl) h1,Ev.congr (fun k => by unfold spec_l3okFilters.f;rw [if_neg c];rfl) h2⟩
theorem config_ev (a b c d : Int) : ∃ o,impl_goodConfig.f a b c d = some o ∧ spec_l3okConfig.f a b c d = some o:=by
 have e : spec_l3okConfig.f a b c d = impl_goodConfig.f a b c d:=rfl
 rw [e]
 have : ∃ o,impl_goodConfig.f a b c d = some o:=by
  unfold impl_goodConfig.f
  repeat' split
  all_goals exact ⟨_,rfl⟩
 obtain ⟨o,h⟩:=this
 exact ⟨o,h,h⟩
end Go.Proofs.Ytcaefabbcjlkdaa.P
namespace Go.Proofs.Ytcaefabbcjlkdaa.P
open Go Go.RowKit Go.Proofs.YtcaefabbcjlkdaaW.PrintWords
set_option linter.unusedVariables false
abbrev bxAt (bs : List S87) (i : Nat) : S87:=rd_T87 bs (i : Int)
def valF (x : S45) : Bool:=validF x.f0 x.f1 x.f2 x.f3 x.f4.length
def keyUp (g : S87 → Int) (bs : List S87) : Nat → (Int → Option Int) × Nat
 | 0 => (fun _ => none,0)
 | i + 1 => if (bxAt bs i).f0 = 0 then keyUp g bs i else (fun t => if t = g (bxAt bs i) then some (i : Int) else (keyUp g bs i).1 t,if ((keyUp g bs i).1 (g (bxAt bs i))).isSome then (keyUp g bs i).2 else (keyUp g bs i).2 + 1)
def Live (bs : List S87) (i : Nat) : Prop:=(bxAt bs i).f0 ≠ 0
def liveN (bs : List S87) : Nat → Nat
 | 0 => 0
 | i + 1 => if (bxAt bs i).f0 = 0 then liveN bs i else liveN bs i + 1
def busyN (bs : List S87) : Nat → Nat
 | 0 => 0
 | i + 1 => if (bxAt bs i).f0 = 0 then busyN bs i else if (bxAt bs i).f0 = 1 then busyN bs i else busyN bs i + 1
theorem liveN_le (bs : List S87) (n : Nat) : liveN bs n ≤ n:=by
 induction n with
 | zero => exact Nat.le_refl _
 | succ n ih => rw [liveN];split <;> omega
theorem busyN_le (bs : List S87) (n : Nat) : busyN bs n ≤ n:=by
 induction n with
 | zero => exact Nat.le_refl _
 | succ n ih => rw [busyN];split;omega;split <;> omega
def Uniq (g : S87 → Int) (bs : List S87) (n : Nat) : Prop := ∀ i j,j < i → i < n → Live bs i → Live bs j → g (bxAt bs i) ≠ g (bxAt bs j)
section
variable {g : S87 → Int} {bs : List S87}
theorem Uniq.less {n m : Nat} (h : Uniq g bs n) (hm : m ≤ n) : Uniq g bs m:=fun i j h1 h2 => h i j h1 (by omega)
theorem keyUp_some (n : Nat) (t v : Int) (h : (keyUp g bs n).1 t = some v) : ∃ j : Nat,j < n ∧ v = (j : Int) ∧ Live bs j ∧ g (bxAt bs j) = t:=by
 induction n with
 | zero => cases h
 | succ n ih =>
  rw [keyUp] at h
  by_cases c : (bxAt bs n).f0 = 0
  ·rw [if_pos c] at h
   obtain ⟨j,h1,h2⟩:=ih h
   exact ⟨j,by omega,h2⟩
  ·rw [if_neg c] at h
   have h' : (if t = g (bxAt bs n) then some (n : Int) else (keyUp g bs n).1 t) = some v:=h
   by_cases e : t = g (bxAt bs n)
   ·rw [if_pos e] at h'
    exact ⟨n,by omega,(Option.some.inj h').symm,c,e.symm⟩
   ·rw [if_neg e] at h'
    obtain ⟨j,h1,h2⟩:=ih h'
    exact ⟨j,by omega,h2⟩
theorem keyUp_has (n j : Nat) (hj : j < n) (hl : Live bs j) : ((keyUp g bs n).1 (g (bxAt bs j))).isSome = true:=by
 induction n with
 | zero => omega
 | succ n ih =>
  rw [keyUp]
  by_cases c : (bxAt bs n).f0 = 0
  ·rw [if_pos c]
   have : j ≠ n:=by rintro rfl;exact hl c
   exact ih (by omega)
  ·rw [if_neg c]
   show (if g (bxAt bs j) = g (bxAt bs n) then some (n : Int) else (keyUp g bs n).1 (g (bxAt bs j))).isSome = true
   by_cases e : g (bxAt bs j) = g (bxAt bs n)
   ·rw [if_pos e];rfl
   ·rw [if_neg e]
    have : j ≠ n:=by rintro rfl;exact e rfl
    exact ih (by omega)
theorem keyUp_none {n : Nat} {t : Int} : (keyUp g bs n).1 t = none ↔ ∀ j,j < n → Live bs j → g (bxAt bs j) ≠ t:=by
 constructor
 ·intro h j hj hl e
  have:=keyUp_has (g:=g) n j hj hl
  rw [e,h] at this
  cases this
 ·intro h
  cases e : (keyUp g bs n).1 t with
  | none => rfl
  | some v =>
   obtain ⟨j,h1,_,h3,h4⟩:=keyUp_some n t v e
   exact absurd h4 (h j h1 h3)
theorem keyUp_le (n : Nat) : (keyUp g bs n).2 ≤ liveN bs n:=by
 induction n with
 | zero => exact Nat.le_refl _
 | succ n ih =>
  rw [keyUp,liveN]
  by_cases c : (bxAt bs n).f0 = 0
  ·rw [if_pos c,if_pos c];exact ih
  ·rw [if_neg c,if_neg c]
   show (if ((keyUp g bs n).1 (g (bxAt bs n))).isSome then (keyUp g bs n).2 else (keyUp g bs n).2 + 1) ≤ _
   split <;> omega
theorem keyUp_all {n : Nat} : (keyUp g bs n).2 = liveN bs n ↔ Uniq g bs n:=by
 induction n with
 | zero => exact ⟨fun _ i j _ h => absurd h (Nat.not_lt_zero _),fun _ => rfl⟩
 | succ n ih =>
  rw [keyUp,liveN]
  by_cases c : (bxAt bs n).f0 = 0
  ·rw [if_pos c,if_pos c,ih]
   refine ⟨fun h i j h1 h2 h3 h4 => ?_,fun h => h.less (by omega)⟩
   have : i ≠ n:=by rintro rfl;exact h3 c
   exact h i j h1 (by omega) h3 h4
  ·rw [if_neg c,if_neg c]
   show (if ((keyUp g bs n).1 (g (bxAt bs n))).isSome then (keyUp g bs n).2 else (keyUp g bs n).2 + 1) = _ ↔ _
   have hle:=keyUp_le (g:=g) (bs:=bs) n
   cases e : (keyUp g bs n).1 (g (bxAt bs n)) with
   | some v =>
    obtain ⟨j,h1,_,h3,h4⟩:=keyUp_some n _ v e
    refine ⟨fun h => ?_,fun h => absurd h4.symm (h n j h1 (by omega) c h3)⟩
    exfalso
    have h' : (keyUp g bs n).2 = liveN bs n + 1:=h
    omega
   | none =>
    refine ⟨fun h i j h1 h2 h3 h4 => ?_,fun h => ?_⟩
    ·have h' : (keyUp g bs n).2 + 1 = liveN bs n + 1:=h
     have hu:=ih.1 (by omega)
     by_cases q : i = n
     ·subst q
      exact fun q => keyUp_none.1 e j h1 h4 q.symm
     ·exact hu i j h1 (by omega) h3 h4
    ·have:=ih.2 (h.less (by omega))
     show (keyUp g bs n).2 + 1 = liveN bs n + 1
     omega
end
def boxOk (st : Int) (b : S87) : Prop:=(b.f0 = 0 → b.f1 = 0 ∧ b.f2 = 0 ∧ zeroB b.f3 = true) ∧ (b.f0 ≠ 0 → 0 ≤ b.f0 ∧ b.f0 ≤ 3 ∧ 0 ≤ b.f1 ∧ b.f1 ≤ 9999 ∧ 0 ≤ b.f2 ∧ b.f2 < st ∧ valF b.f3 = true)
structure GoodB (st : Int) (bs : List S87) : Prop where
 one : ∀ i,i < bs.length → boxOk st (bxAt bs i)
 tag : Uniq (·.f1) bs bs.length
 stamp : Uniq (·.f2) bs bs.length
 busy : busyN bs bs.length ≤ 1
def evOk (e : S56) : Prop:=1 ≤ e.f0 ∧ e.f0 ≤ 12 ∧ 0 ≤ e.f1 ∧ e.f1 ≤ 9999 ∧ 0 ≤ e.f2 ∧ e.f2 ≤ 9 ∧ (zeroB e.f3 = true ∨ valF e.f3 = true)
structure GoodL (h : HV) : Prop where
 nb : (h.bs.length : Int) = h.cb
 nq : (h.fr.length : Int) ≤ h.cf
 ne : (h.ev.length : Int) ≤ h.ce
 fr : ∀ i : Nat,i < h.fr.length → valF (rd_T45 h.fr (i : Int)) = true
 ev : ∀ i : Nat,i < h.ev.length → evOk (rd_T56 h.ev (i : Int))
structure OkH (h : HV) (o o1 o2 o3 o4 : Bool) : Prop where
 e1 : impl_goodConfig.f h.cb h.cf h.cp h.ce = some o1
 e2 : Ev (fun k => impl_goodFilters.f k h.fs) o2
 e2' : Ev (fun k => spec_l3okFilters.f k h.fs) o2
 e3 : o3 = true ↔ GoodL h
 e4 : o4 = true ↔ GoodB h.stamp h.bs
 is : o = (o1 && (o2 && (decide (0 ≤ h.lost) && (decide (h.lost ≤ 100000) && (decide (0 ≤ h.stamp) && (decide (h.stamp ≤ 1000000) && (o3 && o4)))))))
theorem OkH.total (h : HV) (hl : h.fs.length ≤ 10000000) : ∃ o o1 o2 o3 o4,OkH h o o1 o2 o3 o4:=by
 obtain ⟨o1,h1,_⟩:=config_ev h.cb h.cf h.cp h.ce
 obtain ⟨o2,h2,h3⟩:=filters_ev h.fs hl
 have b : ∀ p : Prop, ∃ o : Bool,o = true ↔ p:=fun p => by
  rcases Classical.em p with c | c
  ·exact ⟨true,(fun _ => c),(fun _ => rfl)⟩
  ·exact ⟨false,(fun q => by cases q),(fun q => absurd q c)⟩
 obtain ⟨o3,h4⟩:=b (GoodL h)
 obtain ⟨o4,h5⟩:=b (GoodB h.stamp h.bs)
 exact ⟨_,o1,o2,o3,o4,h1,h2,h3,h4,h5,rfl⟩
structure GoodH (h : HV) : Prop where
 conf : (1 ≤ h.cb ∧ h.cb ≤ 8) ∧ (1 ≤ h.cf ∧ h.cf ≤ 16) ∧ (1 ≤ h.ce ∧ h.ce ≤ 32)
 fs : h.fs.length ≤ 16
 lost : 0 ≤ h.lost ∧ h.lost ≤ 100000
 st : 0 ≤ h.stamp ∧ h.stamp ≤ 1000000
 L : GoodL h
 B : GoodB h.stamp h.bs
theorem OkH.good {h : HV} {o1 o2 o3 o4 : Bool} (H : OkH h true o1 o2 o3 o4) : GoodH h:=by
 have e:=H.is
 cases o1 with
 | false => cases e
 | true =>
  cases o2 with
  | false => cases e
  | true =>
   have e':=e.symm
   simp only [Bool.true_and,Bool.and_eq_true,decide_eq_true_eq] at e'
   obtain ⟨a1,a2,a3,a4,a5,a6⟩:=e'
   obtain ⟨k,hk⟩:=H.e2.rounds
   exact ⟨goodConfig_is H.e1,goodFilters_is hk,⟨a1,a2⟩,⟨a3,a4⟩,H.e3.1 a5,H.e4.1 a6⟩
theorem valF_len {x : S45} (h : valF x = true) : x.f4.length ≤ 8:=(valid_parts h).2.2.2.2
theorem zeroB_len {x : S45} (h : zeroB x = true) : x.f4.length = 0:=by
 unfold zeroB at h
 simp only [Bool.and_eq_true] at h
 exact eq_of_beq h.2
theorem rd_of_mem {α : Type} {l : List α} {z y : α} (h : y ∈ l) : ∃ i : Nat,i < l.length ∧ l.getD (i : Int).toNat z = y:=by
 obtain ⟨i,hi⟩:=List.mem_iff_getElem?.1 h
 refine ⟨i,(List.getElem?_eq_some_iff.1 hi).1, ?_⟩
 rw [Int.toNat_natCast,List.getD_eq_getElem?_getD,hi];rfl
theorem GoodH.b8 {h : HV} (H : GoodH h) : ∀ y ∈ h.bs,y.f3.f4.length ≤ 8:=by
 intro y hy
 obtain ⟨i,hi,rfl⟩:=rd_of_mem (z:=z87) hy
 have h1:=H.B.one i hi
 by_cases c : (bxAt h.bs i).f0 = 0
 ·have:=zeroB_len (h1.1 c).2.2;exact Nat.le_trans (Nat.le_of_eq this) (by decide)
 ·exact valF_len (h1.2 c).2.2.2.2.2.2
theorem GoodH.q8 {h : HV} (H : GoodH h) : ∀ y ∈ h.fr,y.f4.length ≤ 8:=by
 intro y hy
 obtain ⟨i,hi,rfl⟩:=rd_of_mem (z:=z45) hy
 exact valF_len (H.L.fr i hi)
theorem GoodH.e8 {h : HV} (H : GoodH h) : ∀ y ∈ h.ev,y.f3.f4.length ≤ 8:=by
 intro y hy
 obtain ⟨i,hi,rfl⟩:=rd_of_mem (z:=z56) hy
 rcases (H.L.ev i hi).2.2.2.2.2.2 with h1 | h1
 ·have:=zeroB_len h1;exact Nat.le_trans (Nat.le_of_eq this) (by decide)
 ·exact valF_len h1
theorem GoodH.lens {h : HV} (H : GoodH h) : h.fs.length ≤ 16 ∧ h.bs.length ≤ 8 ∧ h.fr.length ≤ 16 ∧ h.ev.length ≤ 32:=by
 have h1:=H.conf
 have h2:=H.L.nb
 have h3:=H.L.nq
 have h4:=H.L.ne
 have h5:=H.fs
 omega
end Go.Proofs.Ytcaefabbcjlkdaa.P
namespace Go.Proofs.Ytcaefabbcjlkdaa.P
open Go Go.RowKit Go.Proofs.YtcaefabbcjlkdaaW.PrintWords Go.Proofs.YtcaefabbcjlkdaaW.PrintLast Go.Proofs.YtcaefabbcjlkdaaW.PrintMore
set_option linter.unusedVariables false
set_option linter.unusedSimpArgs false
theorem GoodH.small {h : HV} (H : GoodH h) : HSmall h:=by
 have hl:=H.lens
 exact ⟨by omega,by omega,by omega,by omega,fun y hy => Nat.le_trans (H.b8 y hy) (by decide),fun y hy => Nat.le_trans (H.q8 y hy) (by decide),fun y hy => Nat.le_trans (H.e8 y hy) (by decide)⟩
theorem GoodH.fits {h : HV} (H : GoodH h) : HFits h:=by
 have hl:=H.lens
 have hc:=H.conf
 exact ⟨H.small,⟨by omega,by omega⟩,⟨by omega,by omega⟩,H.L.nq,H.L.ne⟩
end Go.Proofs.Ytcaefabbcjlkdaa.P
namespace Go.Proofs.Ytcaefabbcjlkdaa.P
open Go Go.RowKit Go.Proofs.YtcaefabbcjlkdaaW.PrintWords
set_option linter.unusedVariables false
def IsFirst (p : S87 → Prop) (bs : List S87) (r : Int) : Prop:=(r = -1 ∧ ∀ j,j < bs.length → ¬ p (bxAt bs j)) ∨ ∃ j : Nat,j < bs.length ∧ r = (j : Int) ∧ p (bxAt bs j) ∧ ∀ t,t < j → ¬ p (bxAt bs t)
section
variable {p : S87 → Prop} {bs : List S87} {r r' : Int}
theorem IsFirst.total (p : S87 → Prop) (bs : List S87) : ∃ r,IsFirst p bs r:=by
 have key : ∀ n,(∀ j,j < n → ¬ p (bxAt bs j)) ∨ ∃ j : Nat,j < n ∧ p (bxAt bs j) ∧ ∀ t,t < j → ¬ p (bxAt bs t):=by
  intro n
  induction n with
  | zero => exact .inl (fun j hj => absurd hj (Nat.not_lt_zero _))
  | succ n ih =>
   rcases ih with h | ⟨j,h1,h2⟩
   ·rcases Classical.em (p (bxAt bs n)) with c | c
    ·exact .inr ⟨n,by omega,c,h⟩
    ·exact .inl (fun j hj => by by_cases e : j = n;rw [e];exact c;exact h j (by omega))
   ·exact .inr ⟨j,by omega,h2⟩
 rcases key bs.length with h | ⟨j,h1,h2,h3⟩
 ·exact ⟨-1, .inl ⟨rfl,h⟩⟩
 ·exact ⟨j, .inr ⟨j,h1,rfl,h2,h3⟩⟩
theorem IsFirst.at (H : IsFirst p bs r) {i : Nat} (hi : i < bs.length) (hp : p (bxAt bs i)) (hn : ∀ t,t < i → ¬ p (bxAt bs t)) : r = (i : Int):=by
 rcases H with ⟨_,h⟩ | ⟨j,h1,h2,h3,h4⟩
 ·exact absurd hp (h i hi)
 ·rcases Nat.lt_trichotomy i j with c | c | c
  ·exact absurd hp (h4 i c)
  ·rw [h2,c]
  ·exact absurd h3 (hn j c)
theorem IsFirst.none (H : IsFirst p bs r) (hn : ∀ t,t < bs.length → ¬ p (bxAt bs t)) : r = -1:=by
 rcases H with ⟨h,_⟩ | ⟨j,h1,_,h3,_⟩
 ·exact h
 ·exact absurd h3 (hn j h1)
theorem IsFirst.uniq (H : IsFirst p bs r) (H' : IsFirst p bs r') : r = r':=by
 rcases H with ⟨h,h0⟩ | ⟨j,h1,h2,h3,h4⟩
 ·rw [h,H'.none h0]
 ·rw [h2,H'.at h1 h3 h4]
end
section
variable {w0 w w3 : World} {p m : Nat} {x : HV} {l1 l2 : Int} {vf vb vq ve : Value} {f : Int → Option Int} {n : Nat} {o : Nat → Nat} {l : List S87} {cs : Array Value}
end
end Go.Proofs.Ytcaefabbcjlkdaa.P
namespace Go.Proofs.Ytcaefabbcjlkdaa.P
open Go Go.RowKit Go.Proofs.YtcaefabbcjlkdaaW.PrintWords Go.Proofs.YtcaefabbcjlkdaaW.PrintLast Go.Proofs.YtcaefabbcjlkdaaW.PrintMore
set_option linter.unusedVariables false
set_option linter.unusedSimpArgs false
structure HostG (w0 w : World) (p : Nat) (cs : Array Value) (x : HV) (vf vb vq ve : Value) : Prop where
 bel : Below w0.heap.size w0 w
 blk : w.heap[p]? = some (.cells cs 32 (0,0))
 rows : ∃ o,HRows w w0.heap.size (fun _ => True) o x vf vb vq ve
 hp : w0.heap.size ≤ p
section
variable {w0 w we w1 w3 : World} {p : Nat} {cs cs' : Array Value} {x : HV} {vf vb vq ve : Value} {o : Nat → Nat}
theorem HostG.below (H : HostG w0 w p cs x vf vb vq ve) (hb : Below w.heap.size w we) : HostG w0 we p cs x vf vb vq ve:=by
 obtain ⟨h1,h2,⟨o,h4⟩,h5⟩:=H
 exact ⟨below_then h1 h1.size hb,blk_below h2 hb,⟨o,h4.below hb⟩,h5⟩
theorem HostG.put (H : HostG w0 w p cs x vf vb vq ve) (hT : Tch w we (fun k => k = p)) (hx : we.heap[p]? = some (.cells cs' 32 (0,0))) : HostG w0 we p cs' x vf vb vq ve:=by
 obtain ⟨h1,h2,⟨o,h4⟩,h5⟩:=H
 exact ⟨hT.below h1 h1.size (fun k hk => hk ▸ h5),hx,⟨o,(h4.bound.tch hT (fun k hk => host_other h2 hk.2)).mono (fun _ _ => trivial)⟩,h5⟩
theorem HostG.newF {vf' : Value} {l : List S89} {x' : HV} (H : HostG w0 w p cs x vf vb vq ve) (HR : HRows w w0.heap.size (fun _ => True) o x vf vb vq ve) (hb : Below w.heap.size w we)
  (hT : Tch we w3 (fun k => k = p ∨ some k = vf.ownBlock)) (hx : w3.heap[p]? = some (.cells cs' 32 (0,0))) (he : x' = { x with fs:=l })
  (hS : (k89).R 89 w3 w0.heap.size (fun k => (o k = 0 ∧ k < w.heap.size) ∨ w.heap.size ≤ k) vf' l) : HostG w0 w3 p cs' x' vf' vb vq ve:=by
 subst he
 have HR1:=(reown HR 0).below hb
 have H':=H.below hb
 have hown : ∀ k,vf.ownBlock = some k → k < w.heap.size ∧ o k = 0:=fun k hk => ⟨Kd.R_lt HR.f k hk,(R_own_ok HR.f hk).2⟩
 have hw : ∀ k,(k = p ∨ some k = vf.ownBlock) → w0.heap.size ≤ k:=by
  rintro k (e | e)
  ·rw [e];exact H.hp
  ·exact Kd.R_base HR.f k e.symm
 obtain ⟨o',ho',HR2⟩:=HRows.newF (w1:=w3) (vf':=vf') (l:=l) HR1.bound (keep_host hT HR1 H'.blk (i:=0) (fun k hk => by show (if k < w.heap.size then o k else 0) = 0;rw [if_pos (hown k hk).1];exact (hown k hk).2))
  (Kd.R_mono (Kd.R_bound hS) (fun k hk => by
   by_cases c : k < we.heap.size
   ·left
    refine ⟨⟨trivial, ?_⟩, ?_⟩
    ·obtain ⟨h1,h2,h3,q,hq,cs,hc⟩:=hk
     have hq : q ∈ [89]:=hq
     by_cases e : k = p ∨ some k = vf.ownBlock
     ·rcases e with e | e
      ·subst e
       rw [hx] at hc
       injection hc with hc
       injection hc with _ hc _
       subst hc
       simp at hq
      ·obtain ⟨cs',hc'⟩:=Kd.R_typed HR1.f k e.symm
       exact ⟨h2,c,_, .inl rfl,cs',hc'⟩
     ·refine ⟨h2,c,q, ?_,cs,by rw [← hT.block c e];exact hc⟩
      exact .inl (List.mem_singleton.1 hq)
    ·show (if k < w.heap.size then o k else 0) = 0
     rcases hk.1 with h | h
     ·rw [if_pos h.2];exact h.1
     ·rw [if_neg (by omega)]
   ·exact .inr (by omega)))
 exact ⟨hT.below (below_then H.bel H.bel.size hb) (Nat.le_trans H.bel.size hb.size) hw,hx,⟨o',HR2.mono (fun _ _ => trivial)⟩,H.hp⟩
theorem HostG.newB {vb' : Value} {l : List S87} {x' : HV} (H : HostG w0 w p cs x vf vb vq ve) (HR : HRows w w0.heap.size (fun _ => True) o x vf vb vq ve) (hb : Below w.heap.size w we)
  (hT : Tch we w3 (fun k => k = p ∨ some k = vb.ownBlock)) (hx : w3.heap[p]? = some (.cells cs' 32 (0,0))) (he : x' = { x with bs:=l })
  (hS : Kd.S k87 87 w3 w0.heap.size (fun k => (o k = 1 ∧ k < w.heap.size) ∨ w.heap.size ≤ k) vb' l) : HostG w0 w3 p cs' x' vf vb' vq ve:=by
 subst he
 have HR1:=(reown HR 1).below hb
 have H':=H.below hb
 have hown : ∀ k,vb.ownBlock = some k → k < w.heap.size ∧ o k = 1:=fun k hk => ⟨Kd.S_lt HR.b k hk,(S_own_ok HR.b hk).2⟩
 have hw : ∀ k,(k = p ∨ some k = vb.ownBlock) → w0.heap.size ≤ k:=by
  rintro k (e | e)
  ·rw [e];exact H.hp
  ·exact Kd.S_base HR.b k e.symm
 obtain ⟨o',ho',HR2⟩:=HRows.newB (w1:=w3) (vb':=vb') (l:=l) HR1.bound (keep_host hT HR1 H'.blk (i:=1) (fun k hk => by show (if k < w.heap.size then o k else 1) = 1;rw [if_pos (hown k hk).1];exact (hown k hk).2))
  (Kd.S_mono (Kd.S_bound hS) (fun k hk => by
   by_cases c : k < we.heap.size
   ·left
    refine ⟨⟨trivial, ?_⟩, ?_⟩
    ·obtain ⟨h1,h2,h3,q,hq,cs,hc⟩:=hk
     have hq : q ∈ [87,5]:=hq
     by_cases e : k = p ∨ some k = vb.ownBlock
     ·rcases e with e | e
      ·subst e
       rw [hx] at hc
       injection hc with hc
       injection hc with _ hc _
       subst hc
       simp at hq
      ·obtain ⟨cs',hc'⟩:=Kd.S_typed HR1.b k e.symm
       exact ⟨h2,c,_, .inr (.inl rfl),cs',hc'⟩
     ·refine ⟨h2,c,q, ?_,cs,by rw [← hT.block c e];exact hc⟩
      rcases List.mem_cons.1 hq with e1 | e1
      ·exact .inr (.inl e1)
      ·exact .inr (.inr (.inr (.inr (List.mem_singleton.1 e1))))
    ·show (if k < w.heap.size then o k else 1) = 1
     rcases hk.1 with h | h
     ·rw [if_pos h.2];exact h.1
     ·rw [if_neg (by omega)]
   ·exact .inr (by omega)))
 exact ⟨hT.below (below_then H.bel H.bel.size hb) (Nat.le_trans H.bel.size hb.size) hw,hx,⟨o',HR2.mono (fun _ _ => trivial)⟩,H.hp⟩
theorem HostG.newQ {vq' : Value} {l : List S45} {x' : HV} (H : HostG w0 w p cs x vf vb vq ve) (HR : HRows w w0.heap.size (fun _ => True) o x vf vb vq ve) (hb : Below w.heap.size w we)
  (hT : Tch we w3 (fun k => k = p ∨ some k = vq.ownBlock)) (hx : w3.heap[p]? = some (.cells cs' 32 (0,0))) (he : x' = { x with fr:=l })
  (hS : Kd.S k45 45 w3 w0.heap.size (fun k => (o k = 2 ∧ k < w.heap.size) ∨ w.heap.size ≤ k) vq' l) : HostG w0 w3 p cs' x' vf vb vq' ve:=by
 subst he
 have HR1:=(reown HR 2).below hb
 have H':=H.below hb
 have hown : ∀ k,vq.ownBlock = some k → k < w.heap.size ∧ o k = 2:=fun k hk => ⟨Kd.S_lt HR.q k hk,(S_own_ok HR.q hk).2⟩
 have hw : ∀ k,(k = p ∨ some k = vq.ownBlock) → w0.heap.size ≤ k:=by
  rintro k (e | e)
  ·rw [e];exact H.hp
  ·exact Kd.S_base HR.q k e.symm
 obtain ⟨o',ho',HR2⟩:=HRows.newQ (w1:=w3) (vq':=vq') (l:=l) HR1.bound (keep_host hT HR1 H'.blk (i:=2) (fun k hk => by show (if k < w.heap.size then o k else 2) = 2;rw [if_pos (hown k hk).1];exact (hown k hk).2))
  (Kd.S_mono (Kd.S_bound hS) (fun k hk => by
   by_cases c : k < we.heap.size
   ·left
    refine ⟨⟨trivial, ?_⟩, ?_⟩
    ·obtain ⟨h1,h2,h3,q,hq,cs,hc⟩:=hk
     have hq : q ∈ [45,5]:=hq
     by_cases e : k = p ∨ some k = vq.ownBlock
     ·rcases e with e | e
      ·subst e
       rw [hx] at hc
       injection hc with hc
       injection hc with _ hc _
       subst hc
       simp at hq
      ·obtain ⟨cs',hc'⟩:=Kd.S_typed HR1.q k e.symm
       exact ⟨h2,c,_, .inr (.inr (.inl rfl)),cs',hc'⟩
     ·refine ⟨h2,c,q, ?_,cs,by rw [← hT.block c e];exact hc⟩
      rcases List.mem_cons.1 hq with e1 | e1
      ·exact .inr (.inr (.inl e1))
      ·exact .inr (.inr (.inr (.inr (List.mem_singleton.1 e1))))
    ·show (if k < w.heap.size then o k else 2) = 2
     rcases hk.1 with h | h
     ·rw [if_pos h.2];exact h.1
     ·rw [if_neg (by omega)]
   ·exact .inr (by omega)))
 exact ⟨hT.below (below_then H.bel H.bel.size hb) (Nat.le_trans H.bel.size hb.size) hw,hx,⟨o',HR2.mono (fun _ _ => trivial)⟩,H.hp⟩
theorem HostG.setF {vf' : Value} {l : List S89} {x' : HV} (H : HostG w0 w p cs x vf vb vq ve) (hb : Below w.heap.size w we) (hT : Tch we w3 (fun k => k = p))
  (hx : w3.heap[p]? = some (.cells cs' 32 (0,0))) (he : x' = { x with fs:=l }) (hS : (k89).R 89 we w0.heap.size (fun k => w.heap.size ≤ k) vf' l) : HostG w0 w3 p cs' x' vf' vb vq ve:=by
 subst he
 have hpl:=blk_lt H.blk
 have H':=H.below hb
 obtain ⟨o,HR⟩:=H.rows
 have hS3:=Kd.R_step (w1:=w3) hS (fun k hk hl => hT.block hl (by omega))
 obtain ⟨o',ho',HR2⟩:=HRows.newF (w1:=w3) (vf':=vf') (l:=l) HR.bound (fun k hk hn hl => by rw [hT.block (Nat.lt_of_lt_of_le hl hb.size) (host_other H.blk hk.2),hb.block k hl]) (Kd.R_mono hS3 (fun k hk => .inr hk))
 exact ⟨hT.below H'.bel H'.bel.size (fun k hk => hk ▸ H.hp),hx,⟨o',HR2.mono (fun _ _ => trivial)⟩,H.hp⟩
theorem HostG.setB {vb' : Value} {l : List S87} {x' : HV} (H : HostG w0 w p cs x vf vb vq ve) (hb : Below w.heap.size w we) (hT : Tch we w3 (fun k => k = p))
  (hx : w3.heap[p]? = some (.cells cs' 32 (0,0))) (he : x' = { x with bs:=l }) (hS : Kd.S k87 87 we w0.heap.size (fun k => w.heap.size ≤ k) vb' l) : HostG w0 w3 p cs' x' vf vb' vq ve:=by
 subst he
 have hpl:=blk_lt H.blk
 have H':=H.below hb
 obtain ⟨o,HR⟩:=H.rows
 have hS3:=Kd.S_step (w1:=w3) hS (fun k hk hl => hT.block hl (by omega))
 obtain ⟨o',ho',HR2⟩:=HRows.newB (w1:=w3) (vb':=vb') (l:=l) HR.bound (fun k hk hn hl => by rw [hT.block (Nat.lt_of_lt_of_le hl hb.size) (host_other H.blk hk.2),hb.block k hl]) (Kd.S_mono hS3 (fun k hk => .inr hk))
 exact ⟨hT.below H'.bel H'.bel.size (fun k hk => hk ▸ H.hp),hx,⟨o',HR2.mono (fun _ _ => trivial)⟩,H.hp⟩
theorem HostG.setQ {vq' : Value} {l : List S45} {x' : HV} (H : HostG w0 w p cs x vf vb vq ve) (hb : Below w.heap.size w we) (hT : Tch we w3 (fun k => k = p))
  (hx : w3.heap[p]? = some (.cells cs' 32 (0,0))) (he : x' = { x with fr:=l }) (hS : Kd.S k45 45 we w0.heap.size (fun k => w.heap.size ≤ k) vq' l) : HostG w0 w3 p cs' x' vf vb vq' ve:=by
 subst he
 have hpl:=blk_lt H.blk
 have H':=H.below hb
 obtain ⟨o,HR⟩:=H.rows
 have hS3:=Kd.S_step (w1:=w3) hS (fun k hk hl => hT.block hl (by omega))
 obtain ⟨o',ho',HR2⟩:=HRows.newQ (w1:=w3) (vq':=vq') (l:=l) HR.bound (fun k hk hn hl => by rw [hT.block (Nat.lt_of_lt_of_le hl hb.size) (host_other H.blk hk.2),hb.block k hl]) (Kd.S_mono hS3 (fun k hk => .inr hk))
 exact ⟨hT.below H'.bel H'.bel.size (fun k hk => hk ▸ H.hp),hx,⟨o',HR2.mono (fun _ _ => trivial)⟩,H.hp⟩
theorem HostG.setE {ve' : Value} {l : List S56} {x' : HV} (H : HostG w0 w p cs x vf vb vq ve) (hb : Below w.heap.size w we) (hT : Tch we w3 (fun k => k = p))
  (hx : w3.heap[p]? = some (.cells cs' 32 (0,0))) (he : x' = { x with ev:=l }) (hS : Kd.S k56 56 we w0.heap.size (fun k => w.heap.size ≤ k) ve' l) : HostG w0 w3 p cs' x' vf vb vq ve':=by
 subst he
 have hpl:=blk_lt H.blk
 have H':=H.below hb
 obtain ⟨o,HR⟩:=H.rows
 have hS3:=Kd.S_step (w1:=w3) hS (fun k hk hl => hT.block hl (by omega))
 obtain ⟨o',ho',HR2⟩:=HRows.newE (w1:=w3) (ve':=ve') (l:=l) HR.bound (fun k hk hn hl => by rw [hT.block (Nat.lt_of_lt_of_le hl hb.size) (host_other H.blk hk.2),hb.block k hl]) (Kd.S_mono hS3 (fun k hk => .inr hk))
 exact ⟨hT.below H'.bel H'.bel.size (fun k hk => hk ▸ H.hp),hx,⟨o',HR2.mono (fun _ _ => trivial)⟩,H.hp⟩
end
section
variable {w0 w we w3 : World} {p gl : Nat} {cs cs' : Array Value} {x x' : HV} {vf vb vq ve : Value}
end
theorem Tch.less {w w' : World} {S S2 : Nat → Prop} (h : Tch w w' S) (hs : ∀ k,k < w.heap.size → S k → S2 k) : Tch w w' S2:=⟨h.os,h.tape,h.output,⟨h.kept.1,fun k hk hn => h.kept.2 k hk (fun e => hn (hs k hk e))⟩⟩
def postV (h : HV) (kind a b : Int) (x : S45) : HV:=if (h.ev.length : Int) < h.ce then { h with ev:=h.ev ++ [⟨kind,a,b,x⟩] } else { h with lost:=if h.lost < 100000 then h.lost + 1 else h.lost }
end Go.Proofs.Ytcaefabbcjlkdaa.P
namespace Go.Proofs.Ytcaefabbcjlkdaa.P
open Go Go.RowKit Go.Proofs.YtcaefabbcjlkdaaW.PrintWords Go.Proofs.YtcaefabbcjlkdaaW.PrintLast Go.Proofs.YtcaefabbcjlkdaaW.PrintMore
set_option linter.unusedVariables false
structure S8 (h : HV) : Prop where
 l1 : h.fs.length ≤ 16
 l2 : h.bs.length ≤ 8
 l3 : h.fr.length ≤ 16
 l4 : h.ev.length ≤ 32
 d2 : ∀ y ∈ h.bs,y.f3.f4.length ≤ 8
 d3 : ∀ y ∈ h.fr,y.f4.length ≤ 8
 d4 : ∀ y ∈ h.ev,y.f3.f4.length ≤ 8
theorem S8.zero : S8 hv0:=⟨by decide,by decide,by decide,by decide,by simp [hv0],by simp [hv0],by simp [hv0]⟩
theorem S8.sm {h : HV} (H : S8 h) : HSm h:=⟨Nat.le_trans H.l1 (by decide),Nat.le_trans H.l2 (by decide),Nat.le_trans H.l3 (by decide),Nat.le_trans H.l4 (by decide),fun y hy => Nat.le_trans (H.d2 y hy) (by decide),fun y hy => Nat.le_trans (H.d3 y hy) (by decide),fun y hy => Nat.le_trans (H.d4 y hy) (by decide)⟩
theorem S8.small {h : HV} (H : S8 h) : HSmall h:=⟨Nat.le_trans H.l1 (by decide),Nat.le_trans H.l2 (by decide),Nat.le_trans H.l3 (by decide),Nat.le_trans H.l4 (by decide),fun y hy => Nat.le_trans (H.d2 y hy) (by decide),fun y hy => Nat.le_trans (H.d3 y hy) (by decide),fun y hy => Nat.le_trans (H.d4 y hy) (by decide)⟩
theorem S8.set {h : HV} (H : S8 h) (i : Nat) (b : S87) (hb : b.f3.f4.length ≤ 8) : S8 { h with bs:=h.bs.set i b }:=by
 refine ⟨H.l1,by rw [List.length_set];exact H.l2,H.l3,H.l4,fun y hy => ?_,H.d3,H.d4⟩
 rcases List.mem_or_eq_of_mem_set hy with e | rfl
 ·exact H.d2 y e
 ·exact hb
theorem S8.post {h : HV} (H : S8 h) (hc : h.ce ≤ 32) (kind a b : Int) (x : S45) (hx : x.f4.length ≤ 8) : S8 (postV h kind a b x):=by
 unfold postV
 split
 ·refine ⟨H.l1,H.l2,H.l3, ?_,H.d2,H.d3,fun y hy => ?_⟩
  ·show (h.ev ++ [_]).length ≤ 32
   rw [List.length_append]
   show h.ev.length + 1 ≤ 32
   omega
  ·have hy : y ∈ h.ev ++ [_]:=hy
   rcases List.mem_append.1 hy with e | e
   ·exact H.d4 y e
   ·rw [List.mem_singleton.1 e];exact hx
 ·exact ⟨H.l1,H.l2,H.l3,H.l4,H.d2,H.d3,H.d4⟩
theorem K_host_below {w w' : World} {x : S63} {C : List Value} (h : k63.K w x C) (hb : Below w.heap.size w w') : k63.K w' x C:=by
 obtain ⟨A4,c4,A5,c5,A6,c6,A7,c7,rfl,l4,g4,l5,g5,l6,g6,l7,g7⟩:=k63_open h
 exact k63_mk w' x l4 (Kd.C_below g4 hb) l5 (Kd.C_below g5 hb) l6 (Kd.C_below g6 hb) l7 (Kd.C_below g7 hb)
theorem getD_mem {α : Type} (l : List α) (n : Nat) (z : α) {p : α → Prop} (h : ∀ y ∈ l,p y) (hz : p z) : p (l.getD n z):=by
 rw [List.getD_eq_getElem?_getD]
 cases e : l[n]? with
 | none => exact hz
 | some y => exact h y (List.mem_of_getElem? e)
theorem S8.top {h : HV} (H : S8 h) : cnt4 h 1 ≤ 10000:=by
 have S:=H.sm
 have b : ∀ n,offBox h.bs n ≤ 15 * (n : Int):=by
  intro n
  induction n with
  | zero => exact Int.le_refl _
  | succ n ih =>
   rw [offBox]
   have : (h.bs.getD n z87).f3.f4.length ≤ 8:=getD_mem h.bs n _ (p:=fun y => y.f3.f4.length ≤ 8) H.d2 (by decide)
   omega
 have q : ∀ n,offFrame h.fr n ≤ 12 * (n : Int):=by
  intro n
  induction n with
  | zero => exact Int.le_refl _
  | succ n ih =>
   rw [offFrame]
   have : (h.fr.getD n z45).f4.length ≤ 8:=getD_mem h.fr n _ (p:=fun y => y.f4.length ≤ 8) H.d3 (by decide)
   omega
 have e : ∀ n,offEvent h.ev n ≤ 15 * (n : Int):=by
  intro n
  induction n with
  | zero => exact Int.le_refl _
  | succ n ih =>
   rw [offEvent]
   have : (h.ev.getD n z56).f3.f4.length ≤ 8:=getD_mem h.ev n _ (p:=fun y => y.f3.f4.length ≤ 8) H.d4 (by decide)
   omega
 unfold cnt4 cnt3 cnt2 cnt1
 have h1:=b h.bs.length
 have h2:=q h.fr.length
 have h3:=e h.ev.length
 have l1:=H.l1
 have l2:=H.l2
 have l3:=H.l3
 have l4:=H.l4
 omega
end Go.Proofs.Ytcaefabbcjlkdaa.P
namespace Go.Proofs.Ytcaefabbcjlkdaa.P
open Go.RowKit Go.Proofs.YtcaefabbcjlkdaaW.PrintWords Go.Proofs.YtcaefabbcjlkdaaW.PrintLast Go.Proofs.YtcaefabbcjlkdaaW.PrintMore
set_option linter.unusedVariables false
set_option linter.unusedSimpArgs false
def spec_l1dataLen.f (a0_0 : Bool) (a0_1 : Int) (a0_2 : Bool) (a0_3 : Int) (l0_4 : List Int) : Option (Int):=if a0_2 = true then (some 0) else (if a0_3 > 8 then (some 8) else (some a0_3))
set_option maxHeartbeats 8000000 in
set_option maxRecDepth 100000 in
theorem spec_l1dataLen.calls (a0_0 : Bool) (a0_1 : Int) (a0_2 : Bool) (a0_3 : Int) (A0_4 : Option Addr) (c0_4 : Nat) (l0_4 : List Int) (r : Int) (w : World) (hr0_4 : Kd.C (Kd.int .u8) w A0_4 l0_4.length l0_4) (hc0_4 : l0_4.length ≤ c0_4) (h : spec_l1dataLen.f a0_0 a0_1 a0_2 a0_3 l0_4 = some r) :
  Calls Try.prog 115 #[.agg #[.bool a0_0, .int .u32 a0_1, .bool a0_2, .int .i64 a0_3, .slice A0_4 l0_4.length c0_4]] w fun e w' => e = .returned (.int .i64 r) ∧ Below w.heap.size w w':=by
 have hu45:=Try.underlying45
 have HR0_4:=Aside0.mk hr0_4
 have HC0_4:=Aside0.mk hc0_4
 clear hr0_4 hc0_4
 have HB:=Aside0.mk (Below.refl w.heap.size w)
 have H : (if a0_2 = true then (some 0) else (if a0_3 > 8 then (some 8) else (some a0_3))) = some r:=h
 clear h
 by_cases c2 : a0_2 = true
 ·subst c2
  have H1 : (some 0) = some r:=by rw [if_pos rfl] at H;exact H
  clear H
  have H:=H1
  clear H1
  obtain rfl:=Option.some.inj H
  go_enter Try.func115,Try.ntmps115
  go_wp2_with (first | ((with_reducible refine gate_dst (N:=1) rfl ?_);refine box_event ?hg (N:=1) ?hd (cs := #[.bool a0_0, .int .u32 a0_1, .bool true, .int .i64 a0_3, .slice A0_4 l0_4.length c0_4]) (t:=45) ?hr ?_;(case hd => rfl);(case hg => rfl);(case hr => first | (go_simp;done) | (go_simp;rfl));intro gb122 hg w3 hbox hb;have n0_:=Aside0.mk (below_step (by repeat (first | (with_reducible first | exact HB.out | apply below_alloc | apply pw_below_drewN | apply below_drew1) | exact HB.out)) hb);have n1_:=Aside0.mk (hbox);have n2_:=Aside0.mk ((by rw [hg];exact (below_size (by repeat (first | (with_reducible first | exact HB.out | apply below_alloc | apply pw_below_drewN | apply below_drew1) | exact HB.out))) : w.heap.size ≤ gb122));have n3_:=Aside0.mk ((by rw [hg];exact (below_size (by repeat (first | (with_reducible first | exact HB.out | apply below_alloc | apply pw_below_drewN | apply below_drew1) | exact HB.out))) : w.heap.size ≤ gb122));clear HB;have HB:=n0_;have BK122:=n1_;have GW122:=n2_;have GE122:=n3_;clear n0_ n1_ n2_ n3_;clear hb hbox hg;obtain ⟨hcz4_0,hcz4_1,hcz4_2,hcz4_3,hcz4_4⟩:=bc5 BK122.out;obtain ⟨hfz4_0,hfz4_1,hfz4_2,hfz4_3,hfz4_4⟩:=bf5 BK122.out))
  go_ret
  exact ⟨by first | rfl | (simp [errW_none,errW_some] <;> rfl) | (simp [*,errW_none,errW_some] <;> rfl),by repeat (first | (with_reducible first | exact HB.out | apply below_alloc | apply pw_below_drewN | apply below_drew1 | refine below_set ?_ GE122.out) | exact HB.out)⟩
 ·replace c2:=Bool.eq_false_iff.mpr c2
  subst c2
  have H1 : (if a0_3 > 8 then (some 8) else (some a0_3)) = some r:=by rw [if_neg (show ¬ (false = true) by decide)] at H;exact H
  clear H
  have H:=H1
  clear H1
  by_cases c5 : a0_3 > 8
  ·rw [if_pos c5] at H
   have c5b0 : decide (8 < a0_3) = true:=decide_eq_true c5
   clear c5
   obtain rfl:=Option.some.inj H
   go_enter Try.func115,Try.ntmps115
   go_wp2_with (first | ((with_reducible refine gate_dst (N:=1) rfl ?_);refine box_event ?hg (N:=1) ?hd (cs := #[.bool a0_0, .int .u32 a0_1, .bool false, .int .i64 a0_3, .slice A0_4 l0_4.length c0_4]) (t:=45) ?hr ?_;(case hd => rfl);(case hg => rfl);(case hr => first | (go_simp;done) | (go_simp;rfl));intro gb122 hg w6 hbox hb;have n0_:=Aside0.mk (below_step (by repeat (first | (with_reducible first | exact HB.out | apply below_alloc | apply pw_below_drewN | apply below_drew1) | exact HB.out)) hb);have n1_:=Aside0.mk (hbox);have n2_:=Aside0.mk ((by rw [hg];exact (below_size (by repeat (first | (with_reducible first | exact HB.out | apply below_alloc | apply pw_below_drewN | apply below_drew1) | exact HB.out))) : w.heap.size ≤ gb122));have n3_:=Aside0.mk ((by rw [hg];exact (below_size (by repeat (first | (with_reducible first | exact HB.out | apply below_alloc | apply pw_below_drewN | apply below_drew1) | exact HB.out))) : w.heap.size ≤ gb122));clear HB;have HB:=n0_;have BK122:=n1_;have GW122:=n2_;have GE122:=n3_;clear n0_ n1_ n2_ n3_;clear hb hbox hg;obtain ⟨hcz7_0,hcz7_1,hcz7_2,hcz7_3,hcz7_4⟩:=bc5 BK122.out;obtain ⟨hfz7_0,hfz7_1,hfz7_2,hfz7_3,hfz7_4⟩:=bf5 BK122.out))
   go_ret
   exact ⟨by first | rfl | (simp [errW_none,errW_some] <;> rfl) | (simp [*,errW_none,errW_some] <;> rfl),by repeat (first | (with_reducible first | exact HB.out | apply below_alloc | apply pw_below_drewN | apply below_drew1 | refine below_set ?_ GE122.out) | exact HB.out)⟩
  ·rw [if_neg c5] at H
   have c5b0 : decide (8 < a0_3) = false:=decide_eq_false c5
   clear c5
   obtain rfl:=Option.some.inj H
   go_enter Try.func115,Try.ntmps115
   go_wp2_with (first | ((with_reducible refine gate_dst (N:=1) rfl ?_);refine box_event ?hg (N:=1) ?hd (cs := #[.bool a0_0, .int .u32 a0_1, .bool false, .int .i64 a0_3, .slice A0_4 l0_4.length c0_4]) (t:=45) ?hr ?_;(case hd => rfl);(case hg => rfl);(case hr => first | (go_simp;done) | (go_simp;rfl));intro gb122 hg w8 hbox hb;have n0_:=Aside0.mk (below_step (by repeat (first | (with_reducible first | exact HB.out | apply below_alloc | apply pw_below_drewN | apply below_drew1) | exact HB.out)) hb);have n1_:=Aside0.mk (hbox);have n2_:=Aside0.mk ((by rw [hg];exact (below_size (by repeat (first | (with_reducible first | exact HB.out | apply below_alloc | apply pw_below_drewN | apply below_drew1) | exact HB.out))) : w.heap.size ≤ gb122));have n3_:=Aside0.mk ((by rw [hg];exact (below_size (by repeat (first | (with_reducible first | exact HB.out | apply below_alloc | apply pw_below_drewN | apply below_drew1) | exact HB.out))) : w.heap.size ≤ gb122));clear HB;have HB:=n0_;have BK122:=n1_;have GW122:=n2_;have GE122:=n3_;clear n0_ n1_ n2_ n3_;clear hb hbox hg;obtain ⟨hcz9_0,hcz9_1,hcz9_2,hcz9_3,hcz9_4⟩:=bc5 BK122.out;obtain ⟨hfz9_0,hfz9_1,hfz9_2,hfz9_3,hfz9_4⟩:=bf5 BK122.out))
   go_ret
   exact ⟨by first | rfl | (simp [errW_none,errW_some] <;> rfl) | (simp [*,errW_none,errW_some] <;> rfl),by repeat (first | (with_reducible first | exact HB.out | apply below_alloc | apply pw_below_drewN | apply below_drew1 | refine below_set ?_ GE122.out) | exact HB.out)⟩
end Go.Proofs.Ytcaefabbcjlkdaa.P
