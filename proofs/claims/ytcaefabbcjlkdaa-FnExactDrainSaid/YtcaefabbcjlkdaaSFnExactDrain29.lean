/- Texts of the proof of FnExactDrain, joined. -/
import Derived.Test.YtcaefabbcjlkdaaSFnExactDrain22
import Derived.Test.YtcaefabbcjlkdaaSFnExactDrain28
namespace Go.Proofs.Ytcaefabbcjlkdaa.P
open Go.RowKit Go.Proofs.YtcaefabbcjlkdaaW.PrintWords Go.Proofs.YtcaefabbcjlkdaaW.PrintLast Go.Proofs.YtcaefabbcjlkdaaW.PrintMore
set_option linter.unusedVariables false
set_option linter.unusedSimpArgs false
def impl_goodConfig.f (a0_0 : Int) (a0_1 : Int) (a0_2 : Int) (a0_3 : Int) : Option (Bool):=if a0_0 ≥ 1 then (if a0_0 ≤ 8 then (if a0_1 ≥ 1 then (if a0_1 ≤ 16 then (if a0_2 = 0 then (if a0_3 ≥ 1 then (some (decide (a0_3 ≤ 32))) else (some false)) else (if a0_2 = 1 then (if a0_3 ≥ 1 then (some (decide (a0_3 ≤ 32))) else (some false)) else (some false))) else (some false)) else (some false)) else (some false)) else (some false)
set_option maxHeartbeats 8000000 in
set_option maxRecDepth 100000 in
theorem impl_goodConfig.calls (a0_0 : Int) (a0_1 : Int) (a0_2 : Int) (a0_3 : Int) (r : Bool) (w : World) (h : impl_goodConfig.f a0_0 a0_1 a0_2 a0_3 = some r) :
  Calls Try.prog 61 #[.agg #[.int .i64 a0_0, .int .i64 a0_1, .int .i64 a0_2, .int .i64 a0_3]] w fun e w' => e = .returned (.bool r) ∧ Below w.heap.size w w':=by
 have hu26:=Try.underlying26
 have HB:=Aside0.mk (Below.refl w.heap.size w)
 have H : (if a0_0 ≥ 1 then (if a0_0 ≤ 8 then (if a0_1 ≥ 1 then (if a0_1 ≤ 16 then (if a0_2 = 0 then (if a0_3 ≥ 1 then (some (decide (a0_3 ≤ 32))) else (some false)) else (if a0_2 = 1 then (if a0_3 ≥ 1 then (some (decide (a0_3 ≤ 32))) else (some false)) else (some false))) else (some false)) else (some false)) else (some false)) else (some false)) = some r:=h
 clear h
 by_cases c2 : a0_0 ≥ 1
 ·rw [if_pos c2] at H
  have c2b0 : decide (1 ≤ a0_0) = true:=decide_eq_true c2
  clear c2
  by_cases c3 : a0_0 ≤ 8
  ·rw [if_pos c3] at H
   have c3b0 : decide (a0_0 ≤ 8) = true:=decide_eq_true c3
   clear c3
   by_cases c4 : a0_1 ≥ 1
   ·rw [if_pos c4] at H
    have c4b0 : decide (1 ≤ a0_1) = true:=decide_eq_true c4
    clear c4
    by_cases c5 : a0_1 ≤ 16
    ·rw [if_pos c5] at H
     have c5b0 : decide (a0_1 ≤ 16) = true:=decide_eq_true c5
     clear c5
     by_cases c6 : a0_2 = 0
     ·rw [if_pos c6] at H
      have c6b0 : (a0_2 == 0) = true:=beq_iff_eq.mpr c6
      have c6b1 : (a0_2 != 0) = false:=bne_eq_false_iff_eq.mpr c6
      clear c6
      by_cases c7 : a0_3 ≥ 1
      ·rw [if_pos c7] at H
       have c7b0 : decide (1 ≤ a0_3) = true:=decide_eq_true c7
       clear c7
       obtain rfl:=Option.some.inj H
       go_enter Try.func61,Try.ntmps61
       go_wp2_with (first | ((with_reducible refine gate_dst (N:=1) rfl ?_);refine box_event ?hg (N:=1) ?hd (cs := #[.int .i64 a0_0, .int .i64 a0_1, .int .i64 a0_2, .int .i64 a0_3]) (t:=26) ?hr ?_;(case hd => rfl);(case hg => rfl);(case hr => first | (go_simp;done) | (go_simp;rfl));intro gb101 hg w8 hbox hb;have n0_:=Aside0.mk (below_step (by repeat (first | (with_reducible first | exact HB.out | apply below_alloc | apply pw_below_drewN | apply below_drew1) | exact HB.out)) hb);have n1_:=Aside0.mk (hbox);have n2_:=Aside0.mk ((by rw [hg];exact (below_size (by repeat (first | (with_reducible first | exact HB.out | apply below_alloc | apply pw_below_drewN | apply below_drew1) | exact HB.out))) : w.heap.size ≤ gb101));have n3_:=Aside0.mk ((by rw [hg];exact (below_size (by repeat (first | (with_reducible first | exact HB.out | apply below_alloc | apply pw_below_drewN | apply below_drew1) | exact HB.out))) : w.heap.size ≤ gb101));clear HB;have HB:=n0_;have BK101:=n1_;have GW101:=n2_;have GE101:=n3_;clear n0_ n1_ n2_ n3_;clear hb hbox hg;have hcz9_0 : w8.cell? ⟨gb101,0,none⟩ = some (.int .i64 a0_0):=(blk_cell BK101.out 0).trans rfl;have hcz9_1 : w8.cell? ⟨gb101,1,none⟩ = some (.int .i64 a0_1):=(blk_cell BK101.out 1).trans rfl;have hcz9_2 : w8.cell? ⟨gb101,2,none⟩ = some (.int .i64 a0_2):=(blk_cell BK101.out 2).trans rfl;have hcz9_3 : w8.cell? ⟨gb101,3,none⟩ = some (.int .i64 a0_3):=(blk_cell BK101.out 3).trans rfl;have hfz9_0:=blk_frozen BK101.out 0;have hfz9_1:=blk_frozen BK101.out 1;have hfz9_2:=blk_frozen BK101.out 2;have hfz9_3:=blk_frozen BK101.out 3))
       go_ret
       exact ⟨by first | rfl | (simp [errW_none,errW_some] <;> rfl) | (simp [*,errW_none,errW_some] <;> rfl),by repeat (first | (with_reducible first | exact HB.out | apply below_alloc | apply pw_below_drewN | apply below_drew1 | refine below_set ?_ GE101.out) | exact HB.out)⟩
      ·rw [if_neg c7] at H
       have c7b0 : decide (1 ≤ a0_3) = false:=decide_eq_false c7
       clear c7
       obtain rfl:=Option.some.inj H
       go_enter Try.func61,Try.ntmps61
       go_wp2_with (first | ((with_reducible refine gate_dst (N:=1) rfl ?_);refine box_event ?hg (N:=1) ?hd (cs := #[.int .i64 a0_0, .int .i64 a0_1, .int .i64 a0_2, .int .i64 a0_3]) (t:=26) ?hr ?_;(case hd => rfl);(case hg => rfl);(case hr => first | (go_simp;done) | (go_simp;rfl));intro gb101 hg w10 hbox hb;have n0_:=Aside0.mk (below_step (by repeat (first | (with_reducible first | exact HB.out | apply below_alloc | apply pw_below_drewN | apply below_drew1) | exact HB.out)) hb);have n1_:=Aside0.mk (hbox);have n2_:=Aside0.mk ((by rw [hg];exact (below_size (by repeat (first | (with_reducible first | exact HB.out | apply below_alloc | apply pw_below_drewN | apply below_drew1) | exact HB.out))) : w.heap.size ≤ gb101));have n3_:=Aside0.mk ((by rw [hg];exact (below_size (by repeat (first | (with_reducible first | exact HB.out | apply below_alloc | apply pw_below_drewN | apply below_drew1) | exact HB.out))) : w.heap.size ≤ gb101));clear HB;have HB:=n0_;have BK101:=n1_;have GW101:=n2_;have GE101:=n3_;clear n0_ n1_ n2_ n3_;clear hb hbox hg;have hcz11_0 : w10.cell? ⟨gb101,0,none⟩ = some (.int .i64 a0_0):=(blk_cell BK101.out 0).trans rfl;have hcz11_1 : w10.cell? ⟨gb101,1,none⟩ = some (.int .i64 a0_1):=(blk_cell BK101.out 1).trans rfl;have hcz11_2 : w10.cell? ⟨gb101,2,none⟩ = some (.int .i64 a0_2):=(blk_cell BK101.out 2).trans rfl;have hcz11_3 : w10.cell? ⟨gb101,3,none⟩ = some (.int .i64 a0_3):=(blk_cell BK101.out 3).trans rfl;have hfz11_0:=blk_frozen BK101.out 0;have hfz11_1:=blk_frozen BK101.out 1;have hfz11_2:=blk_frozen BK101.out 2;have hfz11_3:=blk_frozen BK101.out 3))
       go_ret
       exact ⟨by first | rfl | (simp [errW_none,errW_some] <;> rfl) | (simp [*,errW_none,errW_some] <;> rfl),by repeat (first | (with_reducible first | exact HB.out | apply below_alloc | apply pw_below_drewN | apply below_drew1 | refine below_set ?_ GE101.out) | exact HB.out)⟩
     ·rw [if_neg c6] at H
      have c6b0 : (a0_2 == 0) = false:=beq_eq_false_iff_ne.mpr c6
      have c6b1 : (a0_2 != 0) = true:=bne_iff_ne.mpr c6
      by_cases c12 : a0_2 = 1
      ·rw [if_pos c12] at H
       have c12b0 : (a0_2 == 1) = true:=beq_iff_eq.mpr c12
       have c12b1 : (a0_2 != 1) = false:=bne_eq_false_iff_eq.mpr c12
       clear c12
       by_cases c13 : a0_3 ≥ 1
       ·rw [if_pos c13] at H
        have c13b0 : decide (1 ≤ a0_3) = true:=decide_eq_true c13
        clear c13
        obtain rfl:=Option.some.inj H
        go_enter Try.func61,Try.ntmps61
        go_wp2_with (first | ((with_reducible refine gate_dst (N:=1) rfl ?_);refine box_event ?hg (N:=1) ?hd (cs := #[.int .i64 a0_0, .int .i64 a0_1, .int .i64 a0_2, .int .i64 a0_3]) (t:=26) ?hr ?_;(case hd => rfl);(case hg => rfl);(case hr => first | (go_simp;done) | (go_simp;rfl));intro gb101 hg w14 hbox hb;have n0_:=Aside0.mk (below_step (by repeat (first | (with_reducible first | exact HB.out | apply below_alloc | apply pw_below_drewN | apply below_drew1) | exact HB.out)) hb);have n1_:=Aside0.mk (hbox);have n2_:=Aside0.mk ((by rw [hg];exact (below_size (by repeat (first | (with_reducible first | exact HB.out | apply below_alloc | apply pw_below_drewN | apply below_drew1) | exact HB.out))) : w.heap.size ≤ gb101));have n3_:=Aside0.mk ((by rw [hg];exact (below_size (by repeat (first | (with_reducible first | exact HB.out | apply below_alloc | apply pw_below_drewN | apply below_drew1) | exact HB.out))) : w.heap.size ≤ gb101));clear HB;have HB:=n0_;have BK101:=n1_;have GW101:=n2_;have GE101:=n3_;clear n0_ n1_ n2_ n3_;clear hb hbox hg;have hcz15_0 : w14.cell? ⟨gb101,0,none⟩ = some (.int .i64 a0_0):=(blk_cell BK101.out 0).trans rfl;have hcz15_1 : w14.cell? ⟨gb101,1,none⟩ = some (.int .i64 a0_1):=(blk_cell BK101.out 1).trans rfl;have hcz15_2 : w14.cell? ⟨gb101,2,none⟩ = some (.int .i64 a0_2):=(blk_cell BK101.out 2).trans rfl;have hcz15_3 : w14.cell? ⟨gb101,3,none⟩ = some (.int .i64 a0_3):=(blk_cell BK101.out 3).trans rfl;have hfz15_0:=blk_frozen BK101.out 0;have hfz15_1:=blk_frozen BK101.out 1;have hfz15_2:=blk_frozen BK101.out 2;have hfz15_3:=blk_frozen BK101.out 3))
        go_ret
        exact ⟨by first | rfl | (simp [errW_none,errW_some] <;> rfl) | (simp [*,errW_none,errW_some] <;> rfl),by repeat (first | (with_reducible first | exact HB.out | apply below_alloc | apply pw_below_drewN | apply below_drew1 | refine below_set ?_ GE101.out) | exact HB.out)⟩
       ·rw [if_neg c13] at H
        have c13b0 : decide (1 ≤ a0_3) = false:=decide_eq_false c13
        clear c13
        obtain rfl:=Option.some.inj H
        go_enter Try.func61,Try.ntmps61
        go_wp2_with (first | ((with_reducible refine gate_dst (N:=1) rfl ?_);refine box_event ?hg (N:=1) ?hd (cs := #[.int .i64 a0_0, .int .i64 a0_1, .int .i64 a0_2, .int .i64 a0_3]) (t:=26) ?hr ?_;(case hd => rfl);(case hg => rfl);(case hr => first | (go_simp;done) | (go_simp;rfl));intro gb101 hg w16 hbox hb;have n0_:=Aside0.mk (below_step (by repeat (first | (with_reducible first | exact HB.out | apply below_alloc | apply pw_below_drewN | apply below_drew1) | exact HB.out)) hb);have n1_:=Aside0.mk (hbox);have n2_:=Aside0.mk ((by rw [hg];exact (below_size (by repeat (first | (with_reducible first | exact HB.out | apply below_alloc | apply pw_below_drewN | apply below_drew1) | exact HB.out))) : w.heap.size ≤ gb101));have n3_:=Aside0.mk ((by rw [hg];exact (below_size (by repeat (first | (with_reducible first | exact HB.out | apply below_alloc | apply pw_below_drewN | apply below_drew1) | exact HB.out))) : w.heap.size ≤ gb101));clear HB;have HB:=n0_;have BK101:=n1_;have GW101:=n2_;have GE101:=n3_;clear n0_ n1_ n2_ n3_;clear hb hbox hg;have hcz17_0 : w16.cell? ⟨gb101,0,none⟩ = some (.int .i64 a0_0):=(blk_cell BK101.out 0).trans rfl;have hcz17_1 : w16.cell? ⟨gb101,1,none⟩ = some (.int .i64 a0_1):=(blk_cell BK101.out 1).trans rfl;have hcz17_2 : w16.cell? ⟨gb101,2,none⟩ = some (.int .i64 a0_2):=(blk_cell BK101.out 2).trans rfl;have hcz17_3 : w16.cell? ⟨gb101,3,none⟩ = some (.int .i64 a0_3):=(blk_cell BK101.out 3).trans rfl;have hfz17_0:=blk_frozen BK101.out 0;have hfz17_1:=blk_frozen BK101.out 1;have hfz17_2:=blk_frozen BK101.out 2;have hfz17_3:=blk_frozen BK101.out 3))
        go_ret
        exact ⟨by first | rfl | (simp [errW_none,errW_some] <;> rfl) | (simp [*,errW_none,errW_some] <;> rfl),by repeat (first | (with_reducible first | exact HB.out | apply below_alloc | apply pw_below_drewN | apply below_drew1 | refine below_set ?_ GE101.out) | exact HB.out)⟩
      ·rw [if_neg c12] at H
       have c12b0 : (a0_2 == 1) = false:=beq_eq_false_iff_ne.mpr c12
       have c12b1 : (a0_2 != 1) = true:=bne_iff_ne.mpr c12
       obtain rfl:=Option.some.inj H
       go_enter Try.func61,Try.ntmps61
       go_wp2_with (first | ((with_reducible refine gate_dst (N:=1) rfl ?_);refine box_event ?hg (N:=1) ?hd (cs := #[.int .i64 a0_0, .int .i64 a0_1, .int .i64 a0_2, .int .i64 a0_3]) (t:=26) ?hr ?_;(case hd => rfl);(case hg => rfl);(case hr => first | (go_simp;done) | (go_simp;rfl));intro gb101 hg w18 hbox hb;have n0_:=Aside0.mk (below_step (by repeat (first | (with_reducible first | exact HB.out | apply below_alloc | apply pw_below_drewN | apply below_drew1) | exact HB.out)) hb);have n1_:=Aside0.mk (hbox);have n2_:=Aside0.mk ((by rw [hg];exact (below_size (by repeat (first | (with_reducible first | exact HB.out | apply below_alloc | apply pw_below_drewN | apply below_drew1) | exact HB.out))) : w.heap.size ≤ gb101));have n3_:=Aside0.mk ((by rw [hg];exact (below_size (by repeat (first | (with_reducible first | exact HB.out | apply below_alloc | apply pw_below_drewN | apply below_drew1) | exact HB.out))) : w.heap.size ≤ gb101));clear HB;have HB:=n0_;have BK101:=n1_;have GW101:=n2_;have GE101:=n3_;clear n0_ n1_ n2_ n3_;clear hb hbox hg;have hcz19_0 : w18.cell? ⟨gb101,0,none⟩ = some (.int .i64 a0_0):=(blk_cell BK101.out 0).trans rfl;have hcz19_1 : w18.cell? ⟨gb101,1,none⟩ = some (.int .i64 a0_1):=(blk_cell BK101.out 1).trans rfl;have hcz19_2 : w18.cell? ⟨gb101,2,none⟩ = some (.int .i64 a0_2):=(blk_cell BK101.out 2).trans rfl;have hcz19_3 : w18.cell? ⟨gb101,3,none⟩ = some (.int .i64 a0_3):=(blk_cell BK101.out 3).trans rfl;have hfz19_0:=blk_frozen BK101.out 0;have hfz19_1:=blk_frozen BK101.out 1;have hfz19_2:=blk_frozen BK101.out 2;have hfz19_3:=blk_frozen BK101.out 3))
       go_ret
       exact ⟨by first | rfl | (simp [errW_none,errW_some] <;> rfl) | (simp [*,errW_none,errW_some] <;> rfl),by repeat (first | (with_reducible first | exact HB.out | apply below_alloc | apply pw_below_drewN | apply below_drew1 | refine below_set ?_ GE101.out) | exact HB.out)⟩
    ·rw [if_neg c5] at H
     have c5b0 : decide (a0_1 ≤ 16) = false:=decide_eq_false c5
     clear c5
     obtain rfl:=Option.some.inj H
     go_enter Try.func61,Try.ntmps61
     go_wp2_with (first | ((with_reducible refine gate_dst (N:=1) rfl ?_);refine box_event ?hg (N:=1) ?hd (cs := #[.int .i64 a0_0, .int .i64 a0_1, .int .i64 a0_2, .int .i64 a0_3]) (t:=26) ?hr ?_;(case hd => rfl);(case hg => rfl);(case hr => first | (go_simp;done) | (go_simp;rfl));intro gb101 hg w20 hbox hb;have n0_:=Aside0.mk (below_step (by repeat (first | (with_reducible first | exact HB.out | apply below_alloc | apply pw_below_drewN | apply below_drew1) | exact HB.out)) hb);have n1_:=Aside0.mk (hbox);have n2_:=Aside0.mk ((by rw [hg];exact (below_size (by repeat (first | (with_reducible first | exact HB.out | apply below_alloc | apply pw_below_drewN | apply below_drew1) | exact HB.out))) : w.heap.size ≤ gb101));have n3_:=Aside0.mk ((by rw [hg];exact (below_size (by repeat (first | (with_reducible first | exact HB.out | apply below_alloc | apply pw_below_drewN | apply below_drew1) | exact HB.out))) : w.heap.size ≤ gb101));clear HB;have HB:=n0_;have BK101:=n1_;have GW101:=n2_;have GE101:=n3_;clear n0_ n1_ n2_ n3_;clear hb hbox hg;have hcz21_0 : w20.cell? ⟨gb101,0,none⟩ = some (.int .i64 a0_0):=(blk_cell BK101.out 0).trans rfl;have hcz21_1 : w20.cell? ⟨gb101,1,none⟩ = some (.int .i64 a0_1):=(blk_cell BK101.out 1).trans rfl;have hcz21_2 : w20.cell? ⟨gb101,2,none⟩ = some (.int .i64 a0_2):=(blk_cell BK101.out 2).trans rfl;have hcz21_3 : w20.cell? ⟨gb101,3,none⟩ = some (.int .i64 a0_3):=(blk_cell BK101.out 3).trans rfl;have hfz21_0:=blk_frozen BK101.out 0;have hfz21_1:=blk_frozen BK101.out 1;have hfz21_2:=blk_frozen BK101.out 2;have hfz21_3:=blk_frozen BK101.out 3))
     go_ret
     exact ⟨by first | rfl | (simp [errW_none,errW_some] <;> rfl) | (simp [*,errW_none,errW_some] <;> rfl),by repeat (first | (with_reducible first | exact HB.out | apply below_alloc | apply pw_below_drewN | apply below_drew1 | refine below_set ?_ GE101.out) | exact HB.out)⟩
   ·rw [if_neg c4] at H
    have c4b0 : decide (1 ≤ a0_1) = false:=decide_eq_false c4
    clear c4
    obtain rfl:=Option.some.inj H
    go_enter Try.func61,Try.ntmps61
    go_wp2_with (first | ((with_reducible refine gate_dst (N:=1) rfl ?_);refine box_event ?hg (N:=1) ?hd (cs := #[.int .i64 a0_0, .int .i64 a0_1, .int .i64 a0_2, .int .i64 a0_3]) (t:=26) ?hr ?_;(case hd => rfl);(case hg => rfl);(case hr => first | (go_simp;done) | (go_simp;rfl));intro gb101 hg w22 hbox hb;have n0_:=Aside0.mk (below_step (by repeat (first | (with_reducible first | exact HB.out | apply below_alloc | apply pw_below_drewN | apply below_drew1) | exact HB.out)) hb);have n1_:=Aside0.mk (hbox);have n2_:=Aside0.mk ((by rw [hg];exact (below_size (by repeat (first | (with_reducible first | exact HB.out | apply below_alloc | apply pw_below_drewN | apply below_drew1) | exact HB.out))) : w.heap.size ≤ gb101));have n3_:=Aside0.mk ((by rw [hg];exact (below_size (by repeat (first | (with_reducible first | exact HB.out | apply below_alloc | apply pw_below_drewN | apply below_drew1) | exact HB.out))) : w.heap.size ≤ gb101));clear HB;have HB:=n0_;have BK101:=n1_;have GW101:=n2_;have GE101:=n3_;clear n0_ n1_ n2_ n3_;clear hb hbox hg;have hcz23_0 : w22.cell? ⟨gb101,0,none⟩ = some (.int .i64 a0_0):=(blk_cell BK101.out 0).trans rfl;have hcz23_1 : w22.cell? ⟨gb101,1,none⟩ = some (.int .i64 a0_1):=(blk_cell BK101.out 1).trans rfl;have hcz23_2 : w22.cell? ⟨gb101,2,none⟩ = some (.int .i64 a0_2):=(blk_cell BK101.out 2).trans rfl;have hcz23_3 : w22.cell? ⟨gb101,3,none⟩ = some (.int .i64 a0_3):=(blk_cell BK101.out 3).trans rfl;have hfz23_0:=blk_frozen BK101.out 0;have hfz23_1:=blk_frozen BK101.out 1;have hfz23_2:=blk_frozen BK101.out 2;have hfz23_3:=blk_frozen BK101.out 3))
    go_ret
    exact ⟨by first | rfl | (simp [errW_none,errW_some] <;> rfl) | (simp [*,errW_none,errW_some] <;> rfl),by repeat (first | (with_reducible first | exact HB.out | apply below_alloc | apply pw_below_drewN | apply below_drew1 | refine below_set ?_ GE101.out) | exact HB.out)⟩
  ·rw [if_neg c3] at H
   have c3b0 : decide (a0_0 ≤ 8) = false:=decide_eq_false c3
   clear c3
   obtain rfl:=Option.some.inj H
   go_enter Try.func61,Try.ntmps61
   go_wp2_with (first | ((with_reducible refine gate_dst (N:=1) rfl ?_);refine box_event ?hg (N:=1) ?hd (cs := #[.int .i64 a0_0, .int .i64 a0_1, .int .i64 a0_2, .int .i64 a0_3]) (t:=26) ?hr ?_;(case hd => rfl);(case hg => rfl);(case hr => first | (go_simp;done) | (go_simp;rfl));intro gb101 hg w24 hbox hb;have n0_:=Aside0.mk (below_step (by repeat (first | (with_reducible first | exact HB.out | apply below_alloc | apply pw_below_drewN | apply below_drew1) | exact HB.out)) hb);have n1_:=Aside0.mk (hbox);have n2_:=Aside0.mk ((by rw [hg];exact (below_size (by repeat (first | (with_reducible first | exact HB.out | apply below_alloc | apply pw_below_drewN | apply below_drew1) | exact HB.out))) : w.heap.size ≤ gb101));have n3_:=Aside0.mk ((by rw [hg];exact (below_size (by repeat (first | (with_reducible first | exact HB.out | apply below_alloc | apply pw_below_drewN | apply below_drew1) | exact HB.out))) : w.heap.size ≤ gb101));clear HB;have HB:=n0_;have BK101:=n1_;have GW101:=n2_;have GE101:=n3_;clear n0_ n1_ n2_ n3_;clear hb hbox hg;have hcz25_0 : w24.cell? ⟨gb101,0,none⟩ = some (.int .i64 a0_0):=(blk_cell BK101.out 0).trans rfl;have hcz25_1 : w24.cell? ⟨gb101,1,none⟩ = some (.int .i64 a0_1):=(blk_cell BK101.out 1).trans rfl;have hcz25_2 : w24.cell? ⟨gb101,2,none⟩ = some (.int .i64 a0_2):=(blk_cell BK101.out 2).trans rfl;have hcz25_3 : w24.cell? ⟨gb101,3,none⟩ = some (.int .i64 a0_3):=(blk_cell BK101.out 3).trans rfl;have hfz25_0:=blk_frozen BK101.out 0;have hfz25_1:=blk_frozen BK101.out 1;have hfz25_2:=blk_frozen BK101.out 2;have hfz25_3:=blk_frozen BK101.out 3))
   go_ret
   exact ⟨by first | rfl | (simp [errW_none,errW_some] <;> rfl) | (simp [*,errW_none,errW_some] <;> rfl),by repeat (first | (with_reducible first | exact HB.out | apply below_alloc | apply pw_below_drewN | apply below_drew1 | refine below_set ?_ GE101.out) | exact HB.out)⟩
 ·rw [if_neg c2] at H
  have c2b0 : decide (1 ≤ a0_0) = false:=decide_eq_false c2
  clear c2
  obtain rfl:=Option.some.inj H
  go_enter Try.func61,Try.ntmps61
  go_wp2_with (first | ((with_reducible refine gate_dst (N:=1) rfl ?_);refine box_event ?hg (N:=1) ?hd (cs := #[.int .i64 a0_0, .int .i64 a0_1, .int .i64 a0_2, .int .i64 a0_3]) (t:=26) ?hr ?_;(case hd => rfl);(case hg => rfl);(case hr => first | (go_simp;done) | (go_simp;rfl));intro gb101 hg w26 hbox hb;have n0_:=Aside0.mk (below_step (by repeat (first | (with_reducible first | exact HB.out | apply below_alloc | apply pw_below_drewN | apply below_drew1) | exact HB.out)) hb);have n1_:=Aside0.mk (hbox);have n2_:=Aside0.mk ((by rw [hg];exact (below_size (by repeat (first | (with_reducible first | exact HB.out | apply below_alloc | apply pw_below_drewN | apply below_drew1) | exact HB.out))) : w.heap.size ≤ gb101));have n3_:=Aside0.mk ((by rw [hg];exact (below_size (by repeat (first | (with_reducible first | exact HB.out | apply below_alloc | apply pw_below_drewN | apply below_drew1) | exact HB.out))) : w.heap.size ≤ gb101));clear HB;have HB:=n0_;have BK101:=n1_;have GW101:=n2_;have GE101:=n3_;clear n0_ n1_ n2_ n3_;clear hb hbox hg;have hcz27_0 : w26.cell? ⟨gb101,0,none⟩ = some (.int .i64 a0_0):=(blk_cell BK101.out 0).trans rfl;have hcz27_1 : w26.cell? ⟨gb101,1,none⟩ = some (.int .i64 a0_1):=(blk_cell BK101.out 1).trans rfl;have hcz27_2 : w26.cell? ⟨gb101,2,none⟩ = some (.int .i64 a0_2):=(blk_cell BK101.out 2).trans rfl;have hcz27_3 : w26.cell? ⟨gb101,3,none⟩ = some (.int .i64 a0_3):=(blk_cell BK101.out 3).trans rfl;have hfz27_0:=blk_frozen BK101.out 0;have hfz27_1:=blk_frozen BK101.out 1;have hfz27_2:=blk_frozen BK101.out 2;have hfz27_3:=blk_frozen BK101.out 3))
  go_ret
  exact ⟨by first | rfl | (simp [errW_none,errW_some] <;> rfl) | (simp [*,errW_none,errW_some] <;> rfl),by repeat (first | (with_reducible first | exact HB.out | apply below_alloc | apply pw_below_drewN | apply below_drew1 | refine below_set ?_ GE101.out) | exact HB.out)⟩
def impl_goodFilters.l0 : Nat → List (S89) → Int → Int → Option (Bool)
 | 0,_,_,_ => none
 | k + 1,x9,x10,x11 => if x11 < x10 then (if 0 ≤ x11 then (if x11 < (x9.length : Int) then (if (rd_T89 x9 x11).f0 = true then (if (mx ((rd_T89 x9 x11).f1) ((rd_T89 x9 x11).f2)) ≥ 536870912 then (some false) else (impl_goodFilters.l0 k x9 x10 (wrap64 (x11 + 1)))) else (if (mx ((rd_T89 x9 x11).f1) ((rd_T89 x9 x11).f2)) ≥ 2048 then (some false) else (impl_goodFilters.l0 k x9 x10 (wrap64 (x11 + 1))))) else (none)) else (none)) else (some true)
def impl_goodFilters.f (k : Nat) (l0 : List (S89)) : Option (Bool):=if (l0.length : Int) > 16 then (some false) else (impl_goodFilters.l0 k l0 (l0.length : Int) 0)
set_option maxHeartbeats 8000000 in
set_option maxRecDepth 100000 in
theorem impl_goodFilters.calls (k : Nat) (A0 : Option Addr) (c0 : Nat) (l0 : List (S89)) (r : Bool) (w : World) (hr0 : Kd.C k89 w A0 l0.length l0) (hc0 : l0.length ≤ c0) (h : impl_goodFilters.f k l0 = some r) :
  Calls Try.prog 62 #[.slice A0 l0.length c0] w fun e w' => e = .returned (.bool r) ∧ Below w.heap.size w w':=by
 have hu89:=Try.underlying89
 have HR0:=Aside0.mk hr0
 have HC0:=Aside0.mk hc0
 clear hr0 hc0
 have HB:=Aside0.mk (Below.refl w.heap.size w)
 have H : (if (l0.length : Int) > 16 then (some false) else (impl_goodFilters.l0 k l0 (l0.length : Int) 0)) = some r:=h
 clear h
 by_cases c2 : (l0.length : Int) > 16
 ·rw [if_pos c2] at H
  have c2b0 : decide (16 < (l0.length : Int)) = true:=decide_eq_true c2
  have c2b1 : decide (16 < l0.length) = true:=decide_eq_true (by omega)
  clear c2
  obtain rfl:=Option.some.inj H
  go_enter Try.func62,Try.ntmps62
  go_wp2
  go_ret
  exact ⟨by first | rfl | (simp [errW_none,errW_some] <;> rfl) | (simp [*,errW_none,errW_some] <;> rfl),by repeat (first | (with_reducible first | exact HB.out | apply below_alloc | apply pw_below_drewN | apply below_drew1) | exact HB.out)⟩
 ·rw [if_neg c2] at H
  have c2b0 : decide (16 < (l0.length : Int)) = false:=decide_eq_false c2
  have c2b1 : decide (16 < l0.length) = false:=decide_eq_false (by omega)
  clear c2
  have H':=Aside0.mk H
  clear H
  go_enter Try.func62,Try.ntmps62
  go_wp2
  go_loopg [11] k (fun kq v11 w' => ∃ (x11_1 : Int),v11 = .int .i64 x11_1 ∧ Aside0 (impl_goodFilters.l0 kq l0 (l0.length : Int) x11_1 = some r) ∧ Aside0 (kq ≤ k) ∧ Aside0 (Below w.heap.size w w'))
  case atStart => exact ⟨(0),(by first | rfl | (simp;done) | (simp [*];done)),H',⟨Nat.le_refl _⟩,⟨by repeat (first | (with_reducible first | exact HB.out | apply below_alloc | apply pw_below_drewN | apply below_drew1) | exact HB.out)⟩⟩
  case round =>
   clear H'
   try clear c2
   try clear c2b0
   try clear c2b1
   try clear p2
   obtain ⟨x11_1,rfl,HA,HK1,HB⟩:=hrel
   cases gk with
   | zero => exact absurd HA.out (by simp [impl_goodFilters.l0])
   | succ k1 =>
    have H:=HA.out
    clear HA
    simp only [impl_goodFilters.l0] at H
    by_cases c3 : x11_1 < (l0.length : Int)
    ·rw [if_pos c3] at H
     have c3b0 : decide (x11_1 < (l0.length : Int)) = true:=decide_eq_true c3
     clear c3
     by_cases c4 : 0 ≤ x11_1
     ·rw [if_pos c4] at H
      have c4b0 : decide (0 ≤ x11_1) = true:=decide_eq_true c4
      clear c4
      by_cases c5 : x11_1 < (l0.length : Int)
      ·rw [if_pos c5] at H
       have c5b0 : decide (x11_1 < (l0.length : Int)) = true:=decide_eq_true c5
       clear c5
       obtain ⟨bq6,hbq6⟩ : ∃ b_ : Bool,b_ = ((rd_T89 l0 x11_1).f0):=⟨_,rfl⟩
       replace H : (if bq6 = true then (if (mx ((rd_T89 l0 x11_1).f1) ((rd_T89 l0 x11_1).f2)) ≥ 536870912 then (some false) else (impl_goodFilters.l0 k1 l0 (l0.length : Int) (wrap64 (x11_1 + 1)))) else (if (mx ((rd_T89 l0 x11_1).f1) ((rd_T89 l0 x11_1).f2)) ≥ 2048 then (some false) else (impl_goodFilters.l0 k1 l0 (l0.length : Int) (wrap64 (x11_1 + 1))))) = some r:=by rw [← hbq6] at H;exact H
       have Nbq6:=Aside0.mk hbq6
       clear hbq6
       by_cases c7 : bq6 = true
       ·subst c7
        have H1 : (if (mx ((rd_T89 l0 x11_1).f1) ((rd_T89 l0 x11_1).f2)) ≥ 536870912 then (some false) else (impl_goodFilters.l0 k1 l0 (l0.length : Int) (wrap64 (x11_1 + 1)))) = some r:=by rw [if_pos rfl] at H;exact H
        clear H
        have H:=H1
        clear H1
        obtain ⟨ji8,hji8⟩ : ∃ j_ : Int,(mx ((rd_T89 l0 x11_1).f1) ((rd_T89 l0 x11_1).f2)) = j_:=⟨_,rfl⟩
        replace H : (if (ji8) ≥ 536870912 then (some false) else (impl_goodFilters.l0 k1 l0 (l0.length : Int) (wrap64 (x11_1 + 1)))) = some r:=by first | (rw [hji8] at H;exact H) | (simp only [hji8] at H ⊢;exact H)
        have hji8_ : (if ((rd_T89 l0 x11_1).f1) < ((rd_T89 l0 x11_1).f2) then ((rd_T89 l0 x11_1).f2) else ((rd_T89 l0 x11_1).f1)) = ji8:=hji8
        by_cases c9 : (ji8) ≥ 536870912
        ·rw [if_pos c9] at H
         have c9b0 : decide (536870912 ≤ (ji8)) = true:=decide_eq_true c9
         clear c9
         obtain rfl:=Option.some.inj H
         have p102 : 0 ≤ (x11_1 : Int):=of_decide_eq_true (by first | (with_reducible assumption) | assumption)
         have q102 : x11_1 < (l0.length : Int):=of_decide_eq_true (by first | (with_reducible assumption) | assumption)
         obtain ⟨ad102,e102,hx102_0,hx102_1,hx102_2⟩:=at_T89 HR0.out x11_1 p102 q102
         (try rw [← Nbq6.out] at hx102_0)
         cases e102
         replace hx102_0:=(HB.out.cell (World.block_lt_of_cell? w _ hx102_0)).trans hx102_0
         replace hx102_1:=(HB.out.cell (World.block_lt_of_cell? w _ hx102_1)).trans hx102_1
         replace hx102_2:=(HB.out.cell (World.block_lt_of_cell? w _ hx102_2)).trans hx102_2
         replace p102:=eq_true p102
         replace q102:=eq_true q102
         go_wp2_with (first | ((with_reducible refine gate_dst (N:=4) rfl ?_);refine box_event ?hg (N:=4) ?hd (cs := #[.bool false, .int .u32 0, .int .u32 0]) (t:=89) ?hr ?_;(case hd => rfl);(case hg => rfl);(case hr => first | (go_simp;done) | (go_simp;rfl));intro gb103 hg w10 hbox hb;have n0_:=Aside0.mk (below_step (by repeat (first | (with_reducible first | exact HB.out | apply below_alloc | apply pw_below_drewN | apply below_drew1) | exact HB.out)) hb);have n1_:=Aside0.mk (hbox);have n2_:=Aside0.mk ((by rw [hg];exact (below_size (by repeat (first | (with_reducible first | exact HB.out | apply below_alloc | apply pw_below_drewN | apply below_drew1) | exact HB.out))) : w.heap.size ≤ gb103));have n3_:=Aside0.mk ((by rw [hg];exact (below_size (by repeat (first | (with_reducible first | exact HB.out | apply below_alloc | apply pw_below_drewN | apply below_drew1) | exact HB.out))) : w.heap.size ≤ gb103));clear HB;have HB:=n0_;have BK103:=n1_;have GW103:=n2_;have GE103:=n3_;clear n0_ n1_ n2_ n3_;clear hb hbox hg;have hcz11_0 : w10.cell? ⟨gb103,0,none⟩ = some (.bool false):=(blk_cell BK103.out 0).trans rfl;have hcz11_1 : w10.cell? ⟨gb103,1,none⟩ = some (.int .u32 0):=(blk_cell BK103.out 1).trans rfl;have hcz11_2 : w10.cell? ⟨gb103,2,none⟩ = some (.int .u32 0):=(blk_cell BK103.out 2).trans rfl;have hfz11_0:=blk_frozen BK103.out 0;have hfz11_1:=blk_frozen BK103.out 1;have hfz11_2:=blk_frozen BK103.out 2))
         go_ret
         exact ⟨by first | rfl | (simp [errW_none,errW_some] <;> rfl) | (simp only [← hji8];first | rfl | (simp [errW_none,errW_some] <;> rfl)) | (simp [*,errW_none,errW_some] <;> rfl),by repeat (first | (with_reducible first | exact HB.out | apply below_alloc | apply pw_below_drewN | apply below_drew1 | refine below_set ?_ GE103.out) | exact HB.out)⟩
        ·rw [if_neg c9] at H
         have c9b0 : decide (536870912 ≤ (ji8)) = false:=decide_eq_false c9
         clear c9
         have H':=Aside0.mk H
         clear H
         have p102 : 0 ≤ (x11_1 : Int):=of_decide_eq_true (by first | (with_reducible assumption) | assumption)
         have q102 : x11_1 < (l0.length : Int):=of_decide_eq_true (by first | (with_reducible assumption) | assumption)
         obtain ⟨ad102,e102,hx102_0,hx102_1,hx102_2⟩:=at_T89 HR0.out x11_1 p102 q102
         (try rw [← Nbq6.out] at hx102_0)
         cases e102
         replace hx102_0:=(HB.out.cell (World.block_lt_of_cell? w _ hx102_0)).trans hx102_0
         replace hx102_1:=(HB.out.cell (World.block_lt_of_cell? w _ hx102_1)).trans hx102_1
         replace hx102_2:=(HB.out.cell (World.block_lt_of_cell? w _ hx102_2)).trans hx102_2
         replace p102:=eq_true p102
         replace q102:=eq_true q102
         go_wp2_with (first | ((with_reducible refine gate_dst (N:=4) rfl ?_);refine box_event ?hg (N:=4) ?hd (cs := #[.bool false, .int .u32 0, .int .u32 0]) (t:=89) ?hr ?_;(case hd => rfl);(case hg => rfl);(case hr => first | (go_simp;done) | (go_simp;rfl));intro gb103 hg w12 hbox hb;have n0_:=Aside0.mk (below_step (by repeat (first | (with_reducible first | exact HB.out | apply below_alloc | apply pw_below_drewN | apply below_drew1) | exact HB.out)) hb);have n1_:=Aside0.mk (hbox);have n2_:=Aside0.mk ((by rw [hg];exact (below_size (by repeat (first | (with_reducible first | exact HB.out | apply below_alloc | apply pw_below_drewN | apply below_drew1) | exact HB.out))) : w.heap.size ≤ gb103));have n3_:=Aside0.mk ((by rw [hg];exact (below_size (by repeat (first | (with_reducible first | exact HB.out | apply below_alloc | apply pw_below_drewN | apply below_drew1) | exact HB.out))) : w.heap.size ≤ gb103));clear HB;have HB:=n0_;have BK103:=n1_;have GW103:=n2_;have GE103:=n3_;clear n0_ n1_ n2_ n3_;clear hb hbox hg;have hcz13_0 : w12.cell? ⟨gb103,0,none⟩ = some (.bool false):=(blk_cell BK103.out 0).trans rfl;have hcz13_1 : w12.cell? ⟨gb103,1,none⟩ = some (.int .u32 0):=(blk_cell BK103.out 1).trans rfl;have hcz13_2 : w12.cell? ⟨gb103,2,none⟩ = some (.int .u32 0):=(blk_cell BK103.out 2).trans rfl;have hfz13_0:=blk_frozen BK103.out 0;have hfz13_1:=blk_frozen BK103.out 1;have hfz13_2:=blk_frozen BK103.out 2))
         go_roundg k1
         case measure => have:=HK1.out;omega
         case rel => exact ⟨(wrap64 (x11_1 + 1)),(by first | rfl | (simp;done) | (simp [*];done)),H',⟨by have:=HK1.out;omega⟩,⟨by repeat (first | (with_reducible first | exact HB.out | apply below_alloc | apply pw_below_drewN | apply below_drew1 | refine below_set ?_ GE103.out) | exact HB.out)⟩⟩
       ·replace c7:=Bool.eq_false_iff.mpr c7
        subst c7
        have H1 : (if (mx ((rd_T89 l0 x11_1).f1) ((rd_T89 l0 x11_1).f2)) ≥ 2048 then (some false) else (impl_goodFilters.l0 k1 l0 (l0.length : Int) (wrap64 (x11_1 + 1)))) = some r:=by rw [if_neg (show ¬ (false = true) by decide)] at H;exact H
        clear H
        have H:=H1
        clear H1
        obtain ⟨ji14,hji14⟩ : ∃ j_ : Int,(mx ((rd_T89 l0 x11_1).f1) ((rd_T89 l0 x11_1).f2)) = j_:=⟨_,rfl⟩
        replace H : (if (ji14) ≥ 2048 then (some false) else (impl_goodFilters.l0 k1 l0 (l0.length : Int) (wrap64 (x11_1 + 1)))) = some r:=by first | (rw [hji14] at H;exact H) | (simp only [hji14] at H ⊢;exact H)
        have hji14_ : (if ((rd_T89 l0 x11_1).f1) < ((rd_T89 l0 x11_1).f2) then ((rd_T89 l0 x11_1).f2) else ((rd_T89 l0 x11_1).f1)) = ji14:=hji14
        by_cases c15 : (ji14) ≥ 2048
        ·rw [if_pos c15] at H
         have c15b0 : decide (2048 ≤ (ji14)) = true:=decide_eq_true c15
         clear c15
         obtain rfl:=Option.some.inj H
         have p102 : 0 ≤ (x11_1 : Int):=of_decide_eq_true (by first | (with_reducible assumption) | assumption)
         have q102 : x11_1 < (l0.length : Int):=of_decide_eq_true (by first | (with_reducible assumption) | assumption)
         obtain ⟨ad102,e102,hx102_0,hx102_1,hx102_2⟩:=at_T89 HR0.out x11_1 p102 q102
         (try rw [← Nbq6.out] at hx102_0)
         cases e102
         replace hx102_0:=(HB.out.cell (World.block_lt_of_cell? w _ hx102_0)).trans hx102_0
         replace hx102_1:=(HB.out.cell (World.block_lt_of_cell? w _ hx102_1)).trans hx102_1
         replace hx102_2:=(HB.out.cell (World.block_lt_of_cell? w _ hx102_2)).trans hx102_2
         replace p102:=eq_true p102
         replace q102:=eq_true q102
         go_wp2_with (first | ((with_reducible refine gate_dst (N:=4) rfl ?_);refine box_event ?hg (N:=4) ?hd (cs := #[.bool false, .int .u32 0, .int .u32 0]) (t:=89) ?hr ?_;(case hd => rfl);(case hg => rfl);(case hr => first | (go_simp;done) | (go_simp;rfl));intro gb103 hg w16 hbox hb;have n0_:=Aside0.mk (below_step (by repeat (first | (with_reducible first | exact HB.out | apply below_alloc | apply pw_below_drewN | apply below_drew1) | exact HB.out)) hb);have n1_:=Aside0.mk (hbox);have n2_:=Aside0.mk ((by rw [hg];exact (below_size (by repeat (first | (with_reducible first | exact HB.out | apply below_alloc | apply pw_below_drewN | apply below_drew1) | exact HB.out))) : w.heap.size ≤ gb103));have n3_:=Aside0.mk ((by rw [hg];exact (below_size (by repeat (first | (with_reducible first | exact HB.out | apply below_alloc | apply pw_below_drewN | apply below_drew1) | exact HB.out))) : w.heap.size ≤ gb103));clear HB;have HB:=n0_;have BK103:=n1_;have GW103:=n2_;have GE103:=n3_;clear n0_ n1_ n2_ n3_;clear hb hbox hg;have hcz17_0 : w16.cell? ⟨gb103,0,none⟩ = some (.bool false):=(blk_cell BK103.out 0).trans rfl;have hcz17_1 : w16.cell? ⟨gb103,1,none⟩ = some (.int .u32 0):=(blk_cell BK103.out 1).trans rfl;have hcz17_2 : w16.cell? ⟨gb103,2,none⟩ = some (.int .u32 0):=(blk_cell BK103.out 2).trans rfl;have hfz17_0:=blk_frozen BK103.out 0;have hfz17_1:=blk_frozen BK103.out 1;have hfz17_2:=blk_frozen BK103.out 2))
         go_ret
         exact ⟨by first | rfl | (simp [errW_none,errW_some] <;> rfl) | (simp only [← hji14];first | rfl | (simp [errW_none,errW_some] <;> rfl)) | (simp [*,errW_none,errW_some] <;> rfl),by repeat (first | (with_reducible first | exact HB.out | apply below_alloc | apply pw_below_drewN | apply below_drew1 | refine below_set ?_ GE103.out) | exact HB.out)⟩
        ·rw [if_neg c15] at H
         have c15b0 : decide (2048 ≤ (ji14)) = false:=decide_eq_false c15
         clear c15
         have H':=Aside0.mk H
         clear H
         have p102 : 0 ≤ (x11_1 : Int):=of_decide_eq_true (by first | (with_reducible assumption) | assumption)
         have q102 : x11_1 < (l0.length : Int):=of_decide_eq_true (by first | (with_reducible assumption) | assumption)
         obtain ⟨ad102,e102,hx102_0,hx102_1,hx102_2⟩:=at_T89 HR0.out x11_1 p102 q102
         (try rw [← Nbq6.out] at hx102_0)
         cases e102
         replace hx102_0:=(HB.out.cell (World.block_lt_of_cell? w _ hx102_0)).trans hx102_0
         replace hx102_1:=(HB.out.cell (World.block_lt_of_cell? w _ hx102_1)).trans hx102_1
         replace hx102_2:=(HB.out.cell (World.block_lt_of_cell? w _ hx102_2)).trans hx102_2
         replace p102:=eq_true p102
         replace q102:=eq_true q102
         go_wp2_with (first | ((with_reducible refine gate_dst (N:=4) rfl ?_);refine box_event ?hg (N:=4) ?hd (cs := #[.bool false, .int .u32 0, .int .u32 0]) (t:=89) ?hr ?_;(case hd => rfl);(case hg => rfl);(case hr => first | (go_simp;done) | (go_simp;rfl));intro gb103 hg w18 hbox hb;have n0_:=Aside0.mk (below_step (by repeat (first | (with_reducible first | exact HB.out | apply below_alloc | apply pw_below_drewN | apply below_drew1) | exact HB.out)) hb);have n1_:=Aside0.mk (hbox);have n2_:=Aside0.mk ((by rw [hg];exact (below_size (by repeat (first | (with_reducible first | exact HB.out | apply below_alloc | apply pw_below_drewN | apply below_drew1) | exact HB.out))) : w.heap.size ≤ gb103));have n3_:=Aside0.mk ((by rw [hg];exact (below_size (by repeat (first | (with_reducible first | exact HB.out | apply below_alloc | apply pw_below_drewN | apply below_drew1) | exact HB.out))) : w.heap.size ≤ gb103));clear HB;have HB:=n0_;have BK103:=n1_;have GW103:=n2_;have GE103:=n3_;clear n0_ n1_ n2_ n3_;clear hb hbox hg;have hcz19_0 : w18.cell? ⟨gb103,0,none⟩ = some (.bool false):=(blk_cell BK103.out 0).trans rfl;have hcz19_1 : w18.cell? ⟨gb103,1,none⟩ = some (.int .u32 0):=(blk_cell BK103.out 1).trans rfl;have hcz19_2 : w18.cell? ⟨gb103,2,none⟩ = some (.int .u32 0):=(blk_cell BK103.out 2).trans rfl;have hfz19_0:=blk_frozen BK103.out 0;have hfz19_1:=blk_frozen BK103.out 1;have hfz19_2:=blk_frozen BK103.out 2))
         go_roundg k1
         case measure => have:=HK1.out;omega
         case rel => exact ⟨(wrap64 (x11_1 + 1)),(by first | rfl | (simp;done) | (simp [*];done)),H',⟨by have:=HK1.out;omega⟩,⟨by repeat (first | (with_reducible first | exact HB.out | apply below_alloc | apply pw_below_drewN | apply below_drew1 | refine below_set ?_ GE103.out) | exact HB.out)⟩⟩
      ·rw [if_neg c5] at H
       exact absurd H (by simp)
     ·rw [if_neg c4] at H
      exact absurd H (by simp)
    ·rw [if_neg c3] at H
     have c3b0 : decide (x11_1 < (l0.length : Int)) = false:=decide_eq_false c3
     clear c3
     obtain rfl:=Option.some.inj H
     go_wp2
     go_ret
     exact ⟨by first | rfl | (simp [errW_none,errW_some] <;> rfl) | (simp [*,errW_none,errW_some] <;> rfl),by repeat (first | (with_reducible first | exact HB.out | apply below_alloc | apply pw_below_drewN | apply below_drew1) | exact HB.out)⟩
end Go.Proofs.Ytcaefabbcjlkdaa.P
namespace Go.Proofs.Ytcaefabbcjlkdaa.P
open Go Go.RowKit Go.Proofs.YtcaefabbcjlkdaaW.PrintWords Go.Proofs.YtcaefabbcjlkdaaW.PrintLast Go.Proofs.YtcaefabbcjlkdaaW.PrintMore
set_option linter.unusedVariables false
set_option linter.unusedSimpArgs false
theorem goodConfig_is {a b c d : Int} (h : impl_goodConfig.f a b c d = some true) : (1 ≤ a ∧ a ≤ 8) ∧ (1 ≤ b ∧ b ≤ 16) ∧ (1 ≤ d ∧ d ≤ 32):=by
 unfold impl_goodConfig.f at h
 repeat' split at h
 all_goals first | (simp only [Option.some.injEq,decide_eq_true_eq] at h;omega) | (simp at h;done)
theorem goodFilters_is {k : Nat} {fs : List S89} (h : impl_goodFilters.f k fs = some true) : fs.length ≤ 16:=by
 unfold impl_goodFilters.f at h
 split at h
 ·simp at h
 ·omega
end Go.Proofs.Ytcaefabbcjlkdaa.P
namespace Go.Proofs.Ytcaefabbcjlkdaa.P
open Go.RowKit Go.Proofs.YtcaefabbcjlkdaaW.PrintWords Go.Proofs.YtcaefabbcjlkdaaW.PrintLast Go.Proofs.YtcaefabbcjlkdaaW.PrintMore
set_option linter.unusedVariables false
set_option linter.unusedSimpArgs false
def spec_l3okConfig.f (a0_0 : Int) (a0_1 : Int) (a0_2 : Int) (a0_3 : Int) : Option (Bool):=if a0_0 ≥ 1 then (if a0_0 ≤ 8 then (if a0_1 ≥ 1 then (if a0_1 ≤ 16 then (if a0_2 = 0 then (if a0_3 ≥ 1 then (some (decide (a0_3 ≤ 32))) else (some false)) else (if a0_2 = 1 then (if a0_3 ≥ 1 then (some (decide (a0_3 ≤ 32))) else (some false)) else (some false))) else (some false)) else (some false)) else (some false)) else (some false)
set_option maxHeartbeats 8000000 in
set_option maxRecDepth 100000 in
theorem spec_l3okConfig.calls (a0_0 : Int) (a0_1 : Int) (a0_2 : Int) (a0_3 : Int) (r : Bool) (w : World) (h : spec_l3okConfig.f a0_0 a0_1 a0_2 a0_3 = some r) :
  Calls Try.prog 57 #[.agg #[.int .i64 a0_0, .int .i64 a0_1, .int .i64 a0_2, .int .i64 a0_3]] w fun e w' => e = .returned (.bool r) ∧ Below w.heap.size w w':=by
 have hu26:=Try.underlying26
 have HB:=Aside0.mk (Below.refl w.heap.size w)
 have H : (if a0_0 ≥ 1 then (if a0_0 ≤ 8 then (if a0_1 ≥ 1 then (if a0_1 ≤ 16 then (if a0_2 = 0 then (if a0_3 ≥ 1 then (some (decide (a0_3 ≤ 32))) else (some false)) else (if a0_2 = 1 then (if a0_3 ≥ 1 then (some (decide (a0_3 ≤ 32))) else (some false)) else (some false))) else (some false)) else (some false)) else (some false)) else (some false)) = some r:=h
 clear h
 by_cases c2 : a0_0 ≥ 1
 ·rw [if_pos c2] at H
  have c2b0 : decide (1 ≤ a0_0) = true:=decide_eq_true c2
  clear c2
  by_cases c3 : a0_0 ≤ 8
  ·rw [if_pos c3] at H
   have c3b0 : decide (a0_0 ≤ 8) = true:=decide_eq_true c3
   clear c3
   by_cases c4 : a0_1 ≥ 1
   ·rw [if_pos c4] at H
    have c4b0 : decide (1 ≤ a0_1) = true:=decide_eq_true c4
    clear c4
    by_cases c5 : a0_1 ≤ 16
    ·rw [if_pos c5] at H
     have c5b0 : decide (a0_1 ≤ 16) = true:=decide_eq_true c5
     clear c5
     by_cases c6 : a0_2 = 0
     ·rw [if_pos c6] at H
      have c6b0 : (a0_2 == 0) = true:=beq_iff_eq.mpr c6
      have c6b1 : (a0_2 != 0) = false:=bne_eq_false_iff_eq.mpr c6
      clear c6
      by_cases c7 : a0_3 ≥ 1
      ·rw [if_pos c7] at H
       have c7b0 : decide (1 ≤ a0_3) = true:=decide_eq_true c7
       clear c7
       obtain rfl:=Option.some.inj H
       go_enter Try.func57,Try.ntmps57
       go_wp2_with (first | ((with_reducible refine gate_dst (N:=1) rfl ?_);refine box_event ?hg (N:=1) ?hd (cs := #[.int .i64 a0_0, .int .i64 a0_1, .int .i64 a0_2, .int .i64 a0_3]) (t:=26) ?hr ?_;(case hd => rfl);(case hg => rfl);(case hr => first | (go_simp;done) | (go_simp;rfl));intro gb286 hg w8 hbox hb;have n0_:=Aside0.mk (below_step (by repeat (first | (with_reducible first | exact HB.out | apply below_alloc | apply pw_below_drewN | apply below_drew1) | exact HB.out)) hb);have n1_:=Aside0.mk (hbox);have n2_:=Aside0.mk ((by rw [hg];exact (below_size (by repeat (first | (with_reducible first | exact HB.out | apply below_alloc | apply pw_below_drewN | apply below_drew1) | exact HB.out))) : w.heap.size ≤ gb286));have n3_:=Aside0.mk ((by rw [hg];exact (below_size (by repeat (first | (with_reducible first | exact HB.out | apply below_alloc | apply pw_below_drewN | apply below_drew1) | exact HB.out))) : w.heap.size ≤ gb286));clear HB;have HB:=n0_;have BK286:=n1_;have GW286:=n2_;have GE286:=n3_;clear n0_ n1_ n2_ n3_;clear hb hbox hg;have hcz9_0 : w8.cell? ⟨gb286,0,none⟩ = some (.int .i64 a0_0):=(blk_cell BK286.out 0).trans rfl;have hcz9_1 : w8.cell? ⟨gb286,1,none⟩ = some (.int .i64 a0_1):=(blk_cell BK286.out 1).trans rfl;have hcz9_2 : w8.cell? ⟨gb286,2,none⟩ = some (.int .i64 a0_2):=(blk_cell BK286.out 2).trans rfl;have hcz9_3 : w8.cell? ⟨gb286,3,none⟩ = some (.int .i64 a0_3):=(blk_cell BK286.out 3).trans rfl;have hfz9_0:=blk_frozen BK286.out 0;have hfz9_1:=blk_frozen BK286.out 1;have hfz9_2:=blk_frozen BK286.out 2;have hfz9_3:=blk_frozen BK286.out 3))
       go_ret
       exact ⟨by first | rfl | (simp [errW_none,errW_some] <;> rfl) | (simp [*,errW_none,errW_some] <;> rfl),by repeat (first | (with_reducible first | exact HB.out | apply below_alloc | apply pw_below_drewN | apply below_drew1 | refine below_set ?_ GE286.out) | exact HB.out)⟩
      ·rw [if_neg c7] at H
       have c7b0 : decide (1 ≤ a0_3) = false:=decide_eq_false c7
       clear c7
       obtain rfl:=Option.some.inj H
       go_enter Try.func57,Try.ntmps57
       go_wp2_with (first | ((with_reducible refine gate_dst (N:=1) rfl ?_);refine box_event ?hg (N:=1) ?hd (cs := #[.int .i64 a0_0, .int .i64 a0_1, .int .i64 a0_2, .int .i64 a0_3]) (t:=26) ?hr ?_;(case hd => rfl);(case hg => rfl);(case hr => first | (go_simp;done) | (go_simp;rfl));intro gb286 hg w10 hbox hb;have n0_:=Aside0.mk (below_step (by repeat (first | (with_reducible first | exact HB.out | apply below_alloc | apply pw_below_drewN | apply below_drew1) | exact HB.out)) hb);have n1_:=Aside0.mk (hbox);have n2_:=Aside0.mk ((by rw [hg];exact (below_size (by repeat (first | (with_reducible first | exact HB.out | apply below_alloc | apply pw_below_drewN | apply below_drew1) | exact HB.out))) : w.heap.size ≤ gb286));have n3_:=Aside0.mk ((by rw [hg];exact (below_size (by repeat (first | (with_reducible first | exact HB.out | apply below_alloc | apply pw_below_drewN | apply below_drew1) | exact HB.out))) : w.heap.size ≤ gb286));clear HB;have HB:=n0_;have BK286:=n1_;have GW286:=n2_;have GE286:=n3_;clear n0_ n1_ n2_ n3_;clear hb hbox hg;have hcz11_0 : w10.cell? ⟨gb286,0,none⟩ = some (.int .i64 a0_0):=(blk_cell BK286.out 0).trans rfl;have hcz11_1 : w10.cell? ⟨gb286,1,none⟩ = some (.int .i64 a0_1):=(blk_cell BK286.out 1).trans rfl;have hcz11_2 : w10.cell? ⟨gb286,2,none⟩ = some (.int .i64 a0_2):=(blk_cell BK286.out 2).trans rfl;have hcz11_3 : w10.cell? ⟨gb286,3,none⟩ = some (.int .i64 a0_3):=(blk_cell BK286.out 3).trans rfl;have hfz11_0:=blk_frozen BK286.out 0;have hfz11_1:=blk_frozen BK286.out 1;have hfz11_2:=blk_frozen BK286.out 2;have hfz11_3:=blk_frozen BK286.out 3))
       go_ret
       exact ⟨by first | rfl | (simp [errW_none,errW_some] <;> rfl) | (simp [*,errW_none,errW_some] <;> rfl),by repeat (first | (with_reducible first | exact HB.out | apply below_alloc | apply pw_below_drewN | apply below_drew1 | refine below_set ?_ GE286.out) | exact HB.out)⟩
     ·rw [if_neg c6] at H
      have c6b0 : (a0_2 == 0) = false:=beq_eq_false_iff_ne.mpr c6
      have c6b1 : (a0_2 != 0) = true:=bne_iff_ne.mpr c6
      by_cases c12 : a0_2 = 1
      ·rw [if_pos c12] at H
       have c12b0 : (a0_2 == 1) = true:=beq_iff_eq.mpr c12
       have c12b1 : (a0_2 != 1) = false:=bne_eq_false_iff_eq.mpr c12
       clear c12
       by_cases c13 : a0_3 ≥ 1
       ·rw [if_pos c13] at H
        have c13b0 : decide (1 ≤ a0_3) = true:=decide_eq_true c13
        clear c13
        obtain rfl:=Option.some.inj H
        go_enter Try.func57,Try.ntmps57
        go_wp2_with (first | ((with_reducible refine gate_dst (N:=1) rfl ?_);refine box_event ?hg (N:=1) ?hd (cs := #[.int .i64 a0_0, .int .i64 a0_1, .int .i64 a0_2, .int .i64 a0_3]) (t:=26) ?hr ?_;(case hd => rfl);(case hg => rfl);(case hr => first | (go_simp;done) | (go_simp;rfl));intro gb286 hg w14 hbox hb;have n0_:=Aside0.mk (below_step (by repeat (first | (with_reducible first | exact HB.out | apply below_alloc | apply pw_below_drewN | apply below_drew1) | exact HB.out)) hb);have n1_:=Aside0.mk (hbox);have n2_:=Aside0.mk ((by rw [hg];exact (below_size (by repeat (first | (with_reducible first | exact HB.out | apply below_alloc | apply pw_below_drewN | apply below_drew1) | exact HB.out))) : w.heap.size ≤ gb286));have n3_:=Aside0.mk ((by rw [hg];exact (below_size (by repeat (first | (with_reducible first | exact HB.out | apply below_alloc | apply pw_below_drewN | apply below_drew1) | exact HB.out))) : w.heap.size ≤ gb286));clear HB;have HB:=n0_;have BK286:=n1_;have GW286:=n2_;have GE286:=n3_;clear n0_ n1_ n2_ n3_;clear hb hbox hg;have hcz15_0 : w14.cell? ⟨gb286,0,none⟩ = some (.int .i64 a0_0):=(blk_cell BK286.out 0).trans rfl;have hcz15_1 : w14.cell? ⟨gb286,1,none⟩ = some (.int .i64 a0_1):=(blk_cell BK286.out 1).trans rfl;have hcz15_2 : w14.cell? ⟨gb286,2,none⟩ = some (.int .i64 a0_2):=(blk_cell BK286.out 2).trans rfl;have hcz15_3 : w14.cell? ⟨gb286,3,none⟩ = some (.int .i64 a0_3):=(blk_cell BK286.out 3).trans rfl;have hfz15_0:=blk_frozen BK286.out 0;have hfz15_1:=blk_frozen BK286.out 1;have hfz15_2:=blk_frozen BK286.out 2;have hfz15_3:=blk_frozen BK286.out 3))
        go_ret
        exact ⟨by first | rfl | (simp [errW_none,errW_some] <;> rfl) | (simp [*,errW_none,errW_some] <;> rfl),by repeat (first | (with_reducible first | exact HB.out | apply below_alloc | apply pw_below_drewN | apply below_drew1 | refine below_set ?_ GE286.out) | exact HB.out)⟩
       ·rw [if_neg c13] at H
        have c13b0 : decide (1 ≤ a0_3) = false:=decide_eq_false c13
        clear c13
        obtain rfl:=Option.some.inj H
        go_enter Try.func57,Try.ntmps57
        go_wp2_with (first | ((with_reducible refine gate_dst (N:=1) rfl ?_);refine box_event ?hg (N:=1) ?hd (cs := #[.int .i64 a0_0, .int .i64 a0_1, .int .i64 a0_2, .int .i64 a0_3]) (t:=26) ?hr ?_;(case hd => rfl);(case hg => rfl);(case hr => first | (go_simp;done) | (go_simp;rfl));intro gb286 hg w16 hbox hb;have n0_:=Aside0.mk (below_step (by repeat (first | (with_reducible first | exact HB.out | apply below_alloc | apply pw_below_drewN | apply below_drew1) | exact HB.out)) hb);have n1_:=Aside0.mk (hbox);have n2_:=Aside0.mk ((by rw [hg];exact (below_size (by repeat (first | (with_reducible first | exact HB.out | apply below_alloc | apply pw_below_drewN | apply below_drew1) | exact HB.out))) : w.heap.size ≤ gb286));have n3_:=Aside0.mk ((by rw [hg];exact (below_size (by repeat (first | (with_reducible first | exact HB.out | apply below_alloc | apply pw_below_drewN | apply below_drew1) | exact HB.out))) : w.heap.size ≤ gb286));clear HB;have HB:=n0_;have BK286:=n1_;have GW286:=n2_;have GE286:=n3_;clear n0_ n1_ n2_ n3_;clear hb hbox hg;have hcz17_0 : w16.cell? ⟨gb286,0,none⟩ = some (.int .i64 a0_0):=(blk_cell BK286.out 0).trans rfl;have hcz17_1 : w16.cell? ⟨gb286,1,none⟩ = some (.int .i64 a0_1):=(blk_cell BK286.out 1).trans rfl;have hcz17_2 : w16.cell? ⟨gb286,2,none⟩ = some (.int .i64 a0_2):=(blk_cell BK286.out 2).trans rfl;have hcz17_3 : w16.cell? ⟨gb286,3,none⟩ = some (.int .i64 a0_3):=(blk_cell BK286.out 3).trans rfl;have hfz17_0:=blk_frozen BK286.out 0;have hfz17_1:=blk_frozen BK286.out 1;have hfz17_2:=blk_frozen BK286.out 2;have hfz17_3:=blk_frozen BK286.out 3))
        go_ret
        exact ⟨by first | rfl | (simp [errW_none,errW_some] <;> rfl) | (simp [*,errW_none,errW_some] <;> rfl),by repeat (first | (with_reducible first | exact HB.out | apply below_alloc | apply pw_below_drewN | apply below_drew1 | refine below_set ?_ GE286.out) | exact HB.out)⟩
      ·rw [if_neg c12] at H
       have c12b0 : (a0_2 == 1) = false:=beq_eq_false_iff_ne.mpr c12
       have c12b1 : (a0_2 != 1) = true:=bne_iff_ne.mpr c12
       obtain rfl:=Option.some.inj H
       go_enter Try.func57,Try.ntmps57
       go_wp2_with (first | ((with_reducible refine gate_dst (N:=1) rfl ?_);refine box_event ?hg (N:=1) ?hd (cs := #[.int .i64 a0_0, .int .i64 a0_1, .int .i64 a0_2, .int .i64 a0_3]) (t:=26) ?hr ?_;(case hd => rfl);(case hg => rfl);(case hr => first | (go_simp;done) | (go_simp;rfl));intro gb286 hg w18 hbox hb;have n0_:=Aside0.mk (below_step (by repeat (first | (with_reducible first | exact HB.out | apply below_alloc | apply pw_below_drewN | apply below_drew1) | exact HB.out)) hb);have n1_:=Aside0.mk (hbox);have n2_:=Aside0.mk ((by rw [hg];exact (below_size (by repeat (first | (with_reducible first | exact HB.out | apply below_alloc | apply pw_below_drewN | apply below_drew1) | exact HB.out))) : w.heap.size ≤ gb286));have n3_:=Aside0.mk ((by rw [hg];exact (below_size (by repeat (first | (with_reducible first | exact HB.out | apply below_alloc | apply pw_below_drewN | apply below_drew1) | exact HB.out))) : w.heap.size ≤ gb286));clear HB;have HB:=n0_;have BK286:=n1_;have GW286:=n2_;have GE286:=n3_;clear n0_ n1_ n2_ n3_;clear hb hbox hg;have hcz19_0 : w18.cell? ⟨gb286,0,none⟩ = some (.int .i64 a0_0):=(blk_cell BK286.out 0).trans rfl;have hcz19_1 : w18.cell? ⟨gb286,1,none⟩ = some (.int .i64 a0_1):=(blk_cell BK286.out 1).trans rfl;have hcz19_2 : w18.cell? ⟨gb286,2,none⟩ = some (.int .i64 a0_2):=(blk_cell BK286.out 2).trans rfl;have hcz19_3 : w18.cell? ⟨gb286,3,none⟩ = some (.int .i64 a0_3):=(blk_cell BK286.out 3).trans rfl;have hfz19_0:=blk_frozen BK286.out 0;have hfz19_1:=blk_frozen BK286.out 1;have hfz19_2:=blk_frozen BK286.out 2;have hfz19_3:=blk_frozen BK286.out 3))
       go_ret
       exact ⟨by first | rfl | (simp [errW_none,errW_some] <;> rfl) | (simp [*,errW_none,errW_some] <;> rfl),by repeat (first | (with_reducible first | exact HB.out | apply below_alloc | apply pw_below_drewN | apply below_drew1 | refine below_set ?_ GE286.out) | exact HB.out)⟩
    ·rw [if_neg c5] at H
     have c5b0 : decide (a0_1 ≤ 16) = false:=decide_eq_false c5
     clear c5
     obtain rfl:=Option.some.inj H
     go_enter Try.func57,Try.ntmps57
     go_wp2_with (first | ((with_reducible refine gate_dst (N:=1) rfl ?_);refine box_event ?hg (N:=1) ?hd (cs := #[.int .i64 a0_0, .int .i64 a0_1, .int .i64 a0_2, .int .i64 a0_3]) (t:=26) ?hr ?_;(case hd => rfl);(case hg => rfl);(case hr => first | (go_simp;done) | (go_simp;rfl));intro gb286 hg w20 hbox hb;have n0_:=Aside0.mk (below_step (by repeat (first | (with_reducible first | exact HB.out | apply below_alloc | apply pw_below_drewN | apply below_drew1) | exact HB.out)) hb);have n1_:=Aside0.mk (hbox);have n2_:=Aside0.mk ((by rw [hg];exact (below_size (by repeat (first | (with_reducible first | exact HB.out | apply below_alloc | apply pw_below_drewN | apply below_drew1) | exact HB.out))) : w.heap.size ≤ gb286));have n3_:=Aside0.mk ((by rw [hg];exact (below_size (by repeat (first | (with_reducible first | exact HB.out | apply below_alloc | apply pw_below_drewN | apply below_drew1) | exact HB.out))) : w.heap.size ≤ gb286));clear HB;have HB:=n0_;have BK286:=n1_;have GW286:=n2_;have GE286:=n3_;clear n0_ n1_ n2_ n3_;clear hb hbox hg;have hcz21_0 : w20.cell? ⟨gb286,0,none⟩ = some (.int .i64 a0_0):=(blk_cell BK286.out 0).trans rfl;have hcz21_1 : w20.cell? ⟨gb286,1,none⟩ = some (.int .i64 a0_1):=(blk_cell BK286.out 1).trans rfl;have hcz21_2 : w20.cell? ⟨gb286,2,none⟩ = some (.int .i64 a0_2):=(blk_cell BK286.out 2).trans rfl;have hcz21_3 : w20.cell? ⟨gb286,3,none⟩ = some (.int .i64 a0_3):=(blk_cell BK286.out 3).trans rfl;have hfz21_0:=blk_frozen BK286.out 0;have hfz21_1:=blk_frozen BK286.out 1;have hfz21_2:=blk_frozen BK286.out 2;have hfz21_3:=blk_frozen BK286.out 3))
     go_ret
     exact ⟨by first | rfl | (simp [errW_none,errW_some] <;> rfl) | (simp [*,errW_none,errW_some] <;> rfl),by repeat (first | (with_reducible first | exact HB.out | apply below_alloc | apply pw_below_drewN | apply below_drew1 | refine below_set ?_ GE286.out) | exact HB.out)⟩
   ·rw [if_neg c4] at H
    have c4b0 : decide (1 ≤ a0_1) = false:=decide_eq_false c4
    clear c4
    obtain rfl:=Option.some.inj H
    go_enter Try.func57,Try.ntmps57
    go_wp2_with (first | ((with_reducible refine gate_dst (N:=1) rfl ?_);refine box_event ?hg (N:=1) ?hd (cs := #[.int .i64 a0_0, .int .i64 a0_1, .int .i64 a0_2, .int .i64 a0_3]) (t:=26) ?hr ?_;(case hd => rfl);(case hg => rfl);(case hr => first | (go_simp;done) | (go_simp;rfl));intro gb286 hg w22 hbox hb;have n0_:=Aside0.mk (below_step (by repeat (first | (with_reducible first | exact HB.out | apply below_alloc | apply pw_below_drewN | apply below_drew1) | exact HB.out)) hb);have n1_:=Aside0.mk (hbox);have n2_:=Aside0.mk ((by rw [hg];exact (below_size (by repeat (first | (with_reducible first | exact HB.out | apply below_alloc | apply pw_below_drewN | apply below_drew1) | exact HB.out))) : w.heap.size ≤ gb286));have n3_:=Aside0.mk ((by rw [hg];exact (below_size (by repeat (first | (with_reducible first | exact HB.out | apply below_alloc | apply pw_below_drewN | apply below_drew1) | exact HB.out))) : w.heap.size ≤ gb286));clear HB;have HB:=n0_;have BK286:=n1_;have GW286:=n2_;have GE286:=n3_;clear n0_ n1_ n2_ n3_;clear hb hbox hg;have hcz23_0 : w22.cell? ⟨gb286,0,none⟩ = some (.int .i64 a0_0):=(blk_cell BK286.out 0).trans rfl;have hcz23_1 : w22.cell? ⟨gb286,1,none⟩ = some (.int .i64 a0_1):=(blk_cell BK286.out 1).trans rfl;have hcz23_2 : w22.cell? ⟨gb286,2,none⟩ = some (.int .i64 a0_2):=(blk_cell BK286.out 2).trans rfl;have hcz23_3 : w22.cell? ⟨gb286,3,none⟩ = some (.int .i64 a0_3):=(blk_cell BK286.out 3).trans rfl;have hfz23_0:=blk_frozen BK286.out 0;have hfz23_1:=blk_frozen BK286.out 1;have hfz23_2:=blk_frozen BK286.out 2;have hfz23_3:=blk_frozen BK286.out 3))
    go_ret
    exact ⟨by first | rfl | (simp [errW_none,errW_some] <;> rfl) | (simp [*,errW_none,errW_some] <;> rfl),by repeat (first | (with_reducible first | exact HB.out | apply below_alloc | apply pw_below_drewN | apply below_drew1 | refine below_set ?_ GE286.out) | exact HB.out)⟩
  ·rw [if_neg c3] at H
   have c3b0 : decide (a0_0 ≤ 8) = false:=decide_eq_false c3
   clear c3
   obtain rfl:=Option.some.inj H
   go_enter Try.func57,Try.ntmps57
   go_wp2_with (first | ((with_reducible refine gate_dst (N:=1) rfl ?_);refine box_event ?hg (N:=1) ?hd (cs := #[.int .i64 a0_0, .int .i64 a0_1, .int .i64 a0_2, .int .i64 a0_3]) (t:=26) ?hr ?_;(case hd => rfl);(case hg => rfl);(case hr => first | (go_simp;done) | (go_simp;rfl));intro gb286 hg w24 hbox hb;have n0_:=Aside0.mk (below_step (by repeat (first | (with_reducible first | exact HB.out | apply below_alloc | apply pw_below_drewN | apply below_drew1) | exact HB.out)) hb);have n1_:=Aside0.mk (hbox);have n2_:=Aside0.mk ((by rw [hg];exact (below_size (by repeat (first | (with_reducible first | exact HB.out | apply below_alloc | apply pw_below_drewN | apply below_drew1) | exact HB.out))) : w.heap.size ≤ gb286));have n3_:=Aside0.mk ((by rw [hg];exact (below_size (by repeat (first | (with_reducible first | exact HB.out | apply below_alloc | apply pw_below_drewN | apply below_drew1) | exact HB.out))) : w.heap.size ≤ gb286));clear HB;have HB:=n0_;have BK286:=n1_;have GW286:=n2_;have GE286:=n3_;clear n0_ n1_ n2_ n3_;clear hb hbox hg;have hcz25_0 : w24.cell? ⟨gb286,0,none⟩ = some (.int .i64 a0_0):=(blk_cell BK286.out 0).trans rfl;have hcz25_1 : w24.cell? ⟨gb286,1,none⟩ = some (.int .i64 a0_1):=(blk_cell BK286.out 1).trans rfl;have hcz25_2 : w24.cell? ⟨gb286,2,none⟩ = some (.int .i64 a0_2):=(blk_cell BK286.out 2).trans rfl;have hcz25_3 : w24.cell? ⟨gb286,3,none⟩ = some (.int .i64 a0_3):=(blk_cell BK286.out 3).trans rfl;have hfz25_0:=blk_frozen BK286.out 0;have hfz25_1:=blk_frozen BK286.out 1;have hfz25_2:=blk_frozen BK286.out 2;have hfz25_3:=blk_frozen BK286.out 3))
   go_ret
   exact ⟨by first | rfl | (simp [errW_none,errW_some] <;> rfl) | (simp [*,errW_none,errW_some] <;> rfl),by repeat (first | (with_reducible first | exact HB.out | apply below_alloc | apply pw_below_drewN | apply below_drew1 | refine below_set ?_ GE286.out) | exact HB.out)⟩
 ·rw [if_neg c2] at H
  have c2b0 : decide (1 ≤ a0_0) = false:=decide_eq_false c2
  clear c2
  obtain rfl:=Option.some.inj H
  go_enter Try.func57,Try.ntmps57
  go_wp2_with (first | ((with_reducible refine gate_dst (N:=1) rfl ?_);refine box_event ?hg (N:=1) ?hd (cs := #[.int .i64 a0_0, .int .i64 a0_1, .int .i64 a0_2, .int .i64 a0_3]) (t:=26) ?hr ?_;(case hd => rfl);(case hg => rfl);(case hr => first | (go_simp;done) | (go_simp;rfl));intro gb286 hg w26 hbox hb;have n0_:=Aside0.mk (below_step (by repeat (first | (with_reducible first | exact HB.out | apply below_alloc | apply pw_below_drewN | apply below_drew1) | exact HB.out)) hb);have n1_:=Aside0.mk (hbox);have n2_:=Aside0.mk ((by rw [hg];exact (below_size (by repeat (first | (with_reducible first | exact HB.out | apply below_alloc | apply pw_below_drewN | apply below_drew1) | exact HB.out))) : w.heap.size ≤ gb286));have n3_:=Aside0.mk ((by rw [hg];exact (below_size (by repeat (first | (with_reducible first | exact HB.out | apply below_alloc | apply pw_below_drewN | apply below_drew1) | exact HB.out))) : w.heap.size ≤ gb286));clear HB;have HB:=n0_;have BK286:=n1_;have GW286:=n2_;have GE286:=n3_;clear n0_ n1_ n2_ n3_;clear hb hbox hg;have hcz27_0 : w26.cell? ⟨gb286,0,none⟩ = some (.int .i64 a0_0):=(blk_cell BK286.out 0).trans rfl;have hcz27_1 : w26.cell? ⟨gb286,1,none⟩ = some (.int .i64 a0_1):=(blk_cell BK286.out 1).trans rfl;have hcz27_2 : w26.cell? ⟨gb286,2,none⟩ = some (.int .i64 a0_2):=(blk_cell BK286.out 2).trans rfl;have hcz27_3 : w26.cell? ⟨gb286,3,none⟩ = some (.int .i64 a0_3):=(blk_cell BK286.out 3).trans rfl;have hfz27_0:=blk_frozen BK286.out 0;have hfz27_1:=blk_frozen BK286.out 1;have hfz27_2:=blk_frozen BK286.out 2;have hfz27_3:=blk_frozen BK286.out 3))
  go_ret
  exact ⟨by first | rfl | (simp [errW_none,errW_some] <;> rfl) | (simp [*,errW_none,errW_some] <;> rfl),by repeat (first | (with_reducible first | exact HB.out | apply below_alloc | apply pw_below_drewN | apply below_drew1 | refine below_set ?_ GE286.out) | exact HB.out)⟩
def spec_l3okFilters.l0 : Nat → List (S89) → Int → Option (Bool)
 | 0,_,_ => none
 | k + 1,x0,x3 => if x3 < (x0.length : Int) then (if 0 ≤ x3 then (if (rd_T89 x0 x3).f0 = true then (if ((rd_T89 x0 x3).f1) ≥ 536870912 then (some false) else (if ((rd_T89 x0 x3).f2) ≥ 536870912 then (some false) else (spec_l3okFilters.l0 k x0 (wrap64 (x3 + 1))))) else (if ((rd_T89 x0 x3).f1) ≥ 2048 then (some false) else (if ((rd_T89 x0 x3).f2) ≥ 2048 then (some false) else (spec_l3okFilters.l0 k x0 (wrap64 (x3 + 1)))))) else (none)) else (some true)
def spec_l3okFilters.f (k : Nat) (l0 : List (S89)) : Option (Bool):=if (l0.length : Int) > 16 then (some false) else (spec_l3okFilters.l0 k l0 0)
set_option maxHeartbeats 8000000 in
set_option maxRecDepth 100000 in
theorem spec_l3okFilters.calls (k : Nat) (A0 : Option Addr) (c0 : Nat) (l0 : List (S89)) (r : Bool) (w : World) (hr0 : Kd.C k89 w A0 l0.length l0) (hc0 : l0.length ≤ c0) (h : spec_l3okFilters.f k l0 = some r) :
  Calls Try.prog 58 #[.slice A0 l0.length c0] w fun e w' => e = .returned (.bool r) ∧ Drawn0 w w':=by
 have HR0:=Aside0.mk hr0
 have HC0:=Aside0.mk hc0
 clear hr0 hc0
 have H : (if (l0.length : Int) > 16 then (some false) else (spec_l3okFilters.l0 k l0 0)) = some r:=h
 clear h
 by_cases c2 : (l0.length : Int) > 16
 ·rw [if_pos c2] at H
  have c2b0 : decide (16 < (l0.length : Int)) = true:=decide_eq_true c2
  have c2b1 : decide (16 < l0.length) = true:=decide_eq_true (by omega)
  clear c2
  obtain rfl:=Option.some.inj H
  go_enter Try.func58,Try.ntmps58
  go_wp2
  go_ret
  exact ⟨by first | rfl | (simp;done) | (simp [*];done),by repeat (first | exact Drawn0.refl _ | apply Drawn0.step)⟩
 ·rw [if_neg c2] at H
  have c2b0 : decide (16 < (l0.length : Int)) = false:=decide_eq_false c2
  have c2b1 : decide (16 < l0.length) = false:=decide_eq_false (by omega)
  clear c2
  have H':=Aside0.mk H
  clear H
  go_enter Try.func58,Try.ntmps58
  go_wp2
  go_loopg [3] k (fun kq v3 w' => ∃ (x3_1 : Int),v3 = .int .i64 x3_1 ∧ Aside0 (spec_l3okFilters.l0 kq l0 x3_1 = some r) ∧ Aside0 (kq ≤ k) ∧ Drawn0 w w')
  case atStart => exact ⟨(0),(by first | rfl | (simp;done) | (simp [*];done)),H',⟨Nat.le_refl _⟩,by repeat (first | exact Drawn0.refl _ | apply Drawn0.step)⟩
  case round =>
   clear H'
   try clear c2
   try clear c2b0
   try clear c2b1
   try clear p2
   obtain ⟨x3_1,rfl,HA,HK1,⟨m1,rfl⟩⟩:=hrel
   cases gk with
   | zero => exact absurd HA.out (by simp [spec_l3okFilters.l0])
   | succ k1 =>
    have H:=HA.out
    clear HA
    simp only [spec_l3okFilters.l0] at H
    by_cases c3 : x3_1 < (l0.length : Int)
    ·rw [if_pos c3] at H
     have c3b0 : decide (x3_1 < (l0.length : Int)) = true:=decide_eq_true c3
     clear c3
     by_cases c4 : 0 ≤ x3_1
     ·rw [if_pos c4] at H
      have c4b0 : decide (0 ≤ x3_1) = true:=decide_eq_true c4
      clear c4
      obtain ⟨bq5,hbq5⟩ : ∃ b_ : Bool,b_ = ((rd_T89 l0 x3_1).f0):=⟨_,rfl⟩
      replace H : (if bq5 = true then (if ((rd_T89 l0 x3_1).f1) ≥ 536870912 then (some false) else (if ((rd_T89 l0 x3_1).f2) ≥ 536870912 then (some false) else (spec_l3okFilters.l0 k1 l0 (wrap64 (x3_1 + 1))))) else (if ((rd_T89 l0 x3_1).f1) ≥ 2048 then (some false) else (if ((rd_T89 l0 x3_1).f2) ≥ 2048 then (some false) else (spec_l3okFilters.l0 k1 l0 (wrap64 (x3_1 + 1)))))) = some r:=by rw [← hbq5] at H;exact H
      have Nbq5:=Aside0.mk hbq5
      clear hbq5
      by_cases c6 : bq5 = true
      ·subst c6
       have H1 : (if ((rd_T89 l0 x3_1).f1) ≥ 536870912 then (some false) else (if ((rd_T89 l0 x3_1).f2) ≥ 536870912 then (some false) else (spec_l3okFilters.l0 k1 l0 (wrap64 (x3_1 + 1))))) = some r:=by rw [if_pos rfl] at H;exact H
       clear H
       have H:=H1
       clear H1
       by_cases c7 : ((rd_T89 l0 x3_1).f1) ≥ 536870912
       ·rw [if_pos c7] at H
        have c7b0 : decide (536870912 ≤ ((rd_T89 l0 x3_1).f1)) = true:=decide_eq_true c7
        clear c7
        obtain rfl:=Option.some.inj H
        have p287 : 0 ≤ (x3_1 : Int):=of_decide_eq_true (by first | (with_reducible assumption) | assumption)
        have q287 : x3_1 < (l0.length : Int):=of_decide_eq_true (by first | (with_reducible assumption) | assumption)
        obtain ⟨ad287,e287,hx287_0,hx287_1,hx287_2⟩:=at_T89 HR0.out x3_1 p287 q287
        (try rw [← Nbq5.out] at hx287_0)
        cases e287
        replace p287:=eq_true p287
        replace q287:=eq_true q287
        have p288 : 0 ≤ (x3_1 : Int):=of_decide_eq_true (by first | (with_reducible assumption) | assumption)
        have q288 : x3_1 < (l0.length : Int):=of_decide_eq_true (by first | (with_reducible assumption) | assumption)
        obtain ⟨ad288,e288,hx288_0,hx288_1,hx288_2⟩:=at_T89 HR0.out x3_1 p288 q288
        (try rw [← Nbq5.out] at hx288_0)
        obtain rfl : ad287 = ad288:=(by injection e288)
        replace p288:=eq_true p288
        replace q288:=eq_true q288
        go_wp2
        go_ret
        exact ⟨by first | rfl | (simp;done) | (simp [*];done),by repeat (first | exact Drawn0.refl _ | apply Drawn0.step)⟩
       ·rw [if_neg c7] at H
        have c7b0 : decide (536870912 ≤ ((rd_T89 l0 x3_1).f1)) = false:=decide_eq_false c7
        clear c7
        by_cases c8 : ((rd_T89 l0 x3_1).f2) ≥ 536870912
        ·rw [if_pos c8] at H
         have c8b0 : decide (536870912 ≤ ((rd_T89 l0 x3_1).f2)) = true:=decide_eq_true c8
         clear c8
         obtain rfl:=Option.some.inj H
         have p287 : 0 ≤ (x3_1 : Int):=of_decide_eq_true (by first | (with_reducible assumption) | assumption)
         have q287 : x3_1 < (l0.length : Int):=of_decide_eq_true (by first | (with_reducible assumption) | assumption)
         obtain ⟨ad287,e287,hx287_0,hx287_1,hx287_2⟩:=at_T89 HR0.out x3_1 p287 q287
         (try rw [← Nbq5.out] at hx287_0)
         cases e287
         replace p287:=eq_true p287
         replace q287:=eq_true q287
         have p288 : 0 ≤ (x3_1 : Int):=of_decide_eq_true (by first | (with_reducible assumption) | assumption)
         have q288 : x3_1 < (l0.length : Int):=of_decide_eq_true (by first | (with_reducible assumption) | assumption)
         obtain ⟨ad288,e288,hx288_0,hx288_1,hx288_2⟩:=at_T89 HR0.out x3_1 p288 q288
         (try rw [← Nbq5.out] at hx288_0)
         obtain rfl : ad287 = ad288:=(by injection e288)
         replace p288:=eq_true p288
         replace q288:=eq_true q288
         have p289 : 0 ≤ (x3_1 : Int):=of_decide_eq_true (by first | (with_reducible assumption) | assumption)
         have q289 : x3_1 < (l0.length : Int):=of_decide_eq_true (by first | (with_reducible assumption) | assumption)
         obtain ⟨ad289,e289,hx289_0,hx289_1,hx289_2⟩:=at_T89 HR0.out x3_1 p289 q289
         (try rw [← Nbq5.out] at hx289_0)
         obtain rfl : ad287 = ad289:=(by injection e289)
         replace p289:=eq_true p289
         replace q289:=eq_true q289
         go_wp2
         go_ret
         exact ⟨by first | rfl | (simp;done) | (simp [*];done),by repeat (first | exact Drawn0.refl _ | apply Drawn0.step)⟩
        ·rw [if_neg c8] at H
         have c8b0 : decide (536870912 ≤ ((rd_T89 l0 x3_1).f2)) = false:=decide_eq_false c8
         clear c8
         have H':=Aside0.mk H
         clear H
         have p287 : 0 ≤ (x3_1 : Int):=of_decide_eq_true (by first | (with_reducible assumption) | assumption)
         have q287 : x3_1 < (l0.length : Int):=of_decide_eq_true (by first | (with_reducible assumption) | assumption)
         obtain ⟨ad287,e287,hx287_0,hx287_1,hx287_2⟩:=at_T89 HR0.out x3_1 p287 q287
         (try rw [← Nbq5.out] at hx287_0)
         cases e287
         replace p287:=eq_true p287
         replace q287:=eq_true q287
         have p288 : 0 ≤ (x3_1 : Int):=of_decide_eq_true (by first | (with_reducible assumption) | assumption)
         have q288 : x3_1 < (l0.length : Int):=of_decide_eq_true (by first | (with_reducible assumption) | assumption)
         obtain ⟨ad288,e288,hx288_0,hx288_1,hx288_2⟩:=at_T89 HR0.out x3_1 p288 q288
         (try rw [← Nbq5.out] at hx288_0)
         obtain rfl : ad287 = ad288:=(by injection e288)
         replace p288:=eq_true p288
         replace q288:=eq_true q288
         have p289 : 0 ≤ (x3_1 : Int):=of_decide_eq_true (by first | (with_reducible assumption) | assumption)
         have q289 : x3_1 < (l0.length : Int):=of_decide_eq_true (by first | (with_reducible assumption) | assumption)
         obtain ⟨ad289,e289,hx289_0,hx289_1,hx289_2⟩:=at_T89 HR0.out x3_1 p289 q289
         (try rw [← Nbq5.out] at hx289_0)
         obtain rfl : ad287 = ad289:=(by injection e289)
         replace p289:=eq_true p289
         replace q289:=eq_true q289
         go_wp2
         go_roundg k1
         case measure => have:=HK1.out;omega
         case rel => exact ⟨(wrap64 (x3_1 + 1)),(by first | rfl | (simp;done) | (simp [*];done)),H',⟨by have:=HK1.out;omega⟩,by repeat (first | exact Drawn0.refl _ | apply Drawn0.step)⟩
      ·replace c6:=Bool.eq_false_iff.mpr c6
       subst c6
       have H1 : (if ((rd_T89 l0 x3_1).f1) ≥ 2048 then (some false) else (if ((rd_T89 l0 x3_1).f2) ≥ 2048 then (some false) else (spec_l3okFilters.l0 k1 l0 (wrap64 (x3_1 + 1))))) = some r:=by rw [if_neg (show ¬ (false = true) by decide)] at H;exact H
       clear H
       have H:=H1
       clear H1
       by_cases c9 : ((rd_T89 l0 x3_1).f1) ≥ 2048
       ·rw [if_pos c9] at H
        have c9b0 : decide (2048 ≤ ((rd_T89 l0 x3_1).f1)) = true:=decide_eq_true c9
        clear c9
        obtain rfl:=Option.some.inj H
        have p287 : 0 ≤ (x3_1 : Int):=of_decide_eq_true (by first | (with_reducible assumption) | assumption)
        have q287 : x3_1 < (l0.length : Int):=of_decide_eq_true (by first | (with_reducible assumption) | assumption)
        obtain ⟨ad287,e287,hx287_0,hx287_1,hx287_2⟩:=at_T89 HR0.out x3_1 p287 q287
        (try rw [← Nbq5.out] at hx287_0)
        cases e287
        replace p287:=eq_true p287
        replace q287:=eq_true q287
        have p290 : 0 ≤ (x3_1 : Int):=of_decide_eq_true (by first | (with_reducible assumption) | assumption)
        have q290 : x3_1 < (l0.length : Int):=of_decide_eq_true (by first | (with_reducible assumption) | assumption)
        obtain ⟨ad290,e290,hx290_0,hx290_1,hx290_2⟩:=at_T89 HR0.out x3_1 p290 q290
        (try rw [← Nbq5.out] at hx290_0)
        obtain rfl : ad287 = ad290:=(by injection e290)
        replace p290:=eq_true p290
        replace q290:=eq_true q290
        go_wp2
        go_ret
        exact ⟨by first | rfl | (simp;done) | (simp [*];done),by repeat (first | exact Drawn0.refl _ | apply Drawn0.step)⟩
       ·rw [if_neg c9] at H
        have c9b0 : decide (2048 ≤ ((rd_T89 l0 x3_1).f1)) = false:=decide_eq_false c9
        clear c9
        by_cases c10 : ((rd_T89 l0 x3_1).f2) ≥ 2048
        ·rw [if_pos c10] at H
         have c10b0 : decide (2048 ≤ ((rd_T89 l0 x3_1).f2)) = true:=decide_eq_true c10
         clear c10
         obtain rfl:=Option.some.inj H
         have p287 : 0 ≤ (x3_1 : Int):=of_decide_eq_true (by first | (with_reducible assumption) | assumption)
         have q287 : x3_1 < (l0.length : Int):=of_decide_eq_true (by first | (with_reducible assumption) | assumption)
         obtain ⟨ad287,e287,hx287_0,hx287_1,hx287_2⟩:=at_T89 HR0.out x3_1 p287 q287
         (try rw [← Nbq5.out] at hx287_0)
         cases e287
         replace p287:=eq_true p287
         replace q287:=eq_true q287
         have p290 : 0 ≤ (x3_1 : Int):=of_decide_eq_true (by first | (with_reducible assumption) | assumption)
         have q290 : x3_1 < (l0.length : Int):=of_decide_eq_true (by first | (with_reducible assumption) | assumption)
         obtain ⟨ad290,e290,hx290_0,hx290_1,hx290_2⟩:=at_T89 HR0.out x3_1 p290 q290
         (try rw [← Nbq5.out] at hx290_0)
         obtain rfl : ad287 = ad290:=(by injection e290)
         replace p290:=eq_true p290
         replace q290:=eq_true q290
         have p291 : 0 ≤ (x3_1 : Int):=of_decide_eq_true (by first | (with_reducible assumption) | assumption)
         have q291 : x3_1 < (l0.length : Int):=of_decide_eq_true (by first | (with_reducible assumption) | assumption)
         obtain ⟨ad291,e291,hx291_0,hx291_1,hx291_2⟩:=at_T89 HR0.out x3_1 p291 q291
         (try rw [← Nbq5.out] at hx291_0)
         obtain rfl : ad287 = ad291:=(by injection e291)
         replace p291:=eq_true p291
         replace q291:=eq_true q291
         go_wp2
         go_ret
         exact ⟨by first | rfl | (simp;done) | (simp [*];done),by repeat (first | exact Drawn0.refl _ | apply Drawn0.step)⟩
        ·rw [if_neg c10] at H
         have c10b0 : decide (2048 ≤ ((rd_T89 l0 x3_1).f2)) = false:=decide_eq_false c10
         clear c10
         have H':=Aside0.mk H
         clear H
         have p287 : 0 ≤ (x3_1 : Int):=of_decide_eq_true (by first | (with_reducible assumption) | assumption)
         have q287 : x3_1 < (l0.length : Int):=of_decide_eq_true (by first | (with_reducible assumption) | assumption)
         obtain ⟨ad287,e287,hx287_0,hx287_1,hx287_2⟩:=at_T89 HR0.out x3_1 p287 q287
         (try rw [← Nbq5.out] at hx287_0)
         cases e287
         replace p287:=eq_true p287
         replace q287:=eq_true q287
         have p290 : 0 ≤ (x3_1 : Int):=of_decide_eq_true (by first | (with_reducible assumption) | assumption)
         have q290 : x3_1 < (l0.length : Int):=of_decide_eq_true (by first | (with_reducible assumption) | assumption)
         obtain ⟨ad290,e290,hx290_0,hx290_1,hx290_2⟩:=at_T89 HR0.out x3_1 p290 q290
         (try rw [← Nbq5.out] at hx290_0)
         obtain rfl : ad287 = ad290:=(by injection e290)
         replace p290:=eq_true p290
         replace q290:=eq_true q290
         have p291 : 0 ≤ (x3_1 : Int):=of_decide_eq_true (by first | (with_reducible assumption) | assumption)
         have q291 : x3_1 < (l0.length : Int):=of_decide_eq_true (by first | (with_reducible assumption) | assumption)
         obtain ⟨ad291,e291,hx291_0,hx291_1,hx291_2⟩:=at_T89 HR0.out x3_1 p291 q291
         (try rw [← Nbq5.out] at hx291_0)
         obtain rfl : ad287 = ad291:=(by injection e291)
         replace p291:=eq_true p291
         replace q291:=eq_true q291
         go_wp2
         go_roundg k1
         case measure => have:=HK1.out;omega
         case rel => exact ⟨(wrap64 (x3_1 + 1)),(by first | rfl | (simp;done) | (simp [*];done)),H',⟨by have:=HK1.out;omega⟩,by repeat (first | exact Drawn0.refl _ | apply Drawn0.step)⟩
     ·rw [if_neg c4] at H
      exact absurd H (by simp)
    ·rw [if_neg c3] at H
     have c3b0 : decide (x3_1 < (l0.length : Int)) = false:=decide_eq_false c3
     clear c3
     obtain rfl:=Option.some.inj H
     go_wp2
     go_ret
     exact ⟨by first | rfl | (simp;done) | (simp [*];done),by repeat (first | exact Drawn0.refl _ | apply Drawn0.step)⟩
def spec_l1copyFrame.l0 : Nat → List Int → Int → Bool → Int → Bool → Int → List Int → Option (Bool × Int × Bool × Int × List Int)
 | 0,_,_,_,_,_,_,_ => none
 | k + 1,x3,x4,x293000,x293001,x293002,x293003,x293004 => if x4 < (x293004.length : Int) then (if 0 ≤ x4 then (if x3.length < 140737488355328 then (spec_l1copyFrame.l0 k (x3 ++ [rd x293004 x4]) (wrap64 (x4 + 1)) x293000 x293001 x293002 x293003 x293004) else (none)) else (none)) else (some (x293000,x293001,x293002,x293003,x3))
def spec_l1copyFrame.f (k : Nat) (a0_0 : Bool) (a0_1 : Int) (a0_2 : Bool) (a0_3 : Int) (l0_4 : List Int) : Option (Bool × Int × Bool × Int × List Int):=spec_l1copyFrame.l0 k (([] : List Int)) 0 a0_0 a0_1 a0_2 a0_3 l0_4
set_option maxHeartbeats 8000000 in
set_option maxRecDepth 100000 in
theorem spec_l1copyFrame.calls (k : Nat) (a0_0 : Bool) (a0_1 : Int) (a0_2 : Bool) (a0_3 : Int) (A0_4 : Option Addr) (c0_4 : Nat) (l0_4 : List Int) (r1 : Bool) (r2 : Int) (r3 : Bool) (r4 : Int) (r5 : List Int) (w : World) (hr0_4 : Kd.C (Kd.int .u8) w A0_4 l0_4.length l0_4) (hc0_4 : l0_4.length ≤ c0_4) (h : spec_l1copyFrame.f k a0_0 a0_1 a0_2 a0_3 l0_4 = some (r1,r2,r3,r4,r5)) :
  Calls Try.prog 109 #[.agg #[.bool a0_0, .int .u32 a0_1, .bool a0_2, .int .i64 a0_3, .slice A0_4 l0_4.length c0_4]] w fun e w' => ∃ v4_ : Value,e = .returned (.agg #[.bool r1, .int .u32 r2, .bool r3, .int .i64 r4,v4_]) ∧ Kd.R (Kd.int .u8) 5 w' w.heap.size (fun _ => True) v4_ r5 ∧ Below w.heap.size w w':=by
 have hu45:=Try.underlying45
 have HR0_4:=Aside0.mk hr0_4
 have HC0_4:=Aside0.mk hc0_4
 clear hr0_4 hc0_4
 have HB:=Aside0.mk (Below.refl w.heap.size w)
 have H : (spec_l1copyFrame.l0 k (([] : List Int)) 0 a0_0 a0_1 a0_2 a0_3 l0_4) = some (r1,r2,r3,r4,r5):=h
 clear h
 obtain ⟨y294,hy294⟩ : ∃ y_ : List Int,y_ = (([] : List Int)):=⟨_,rfl⟩
 replace H : (spec_l1copyFrame.l0 k y294 0 a0_0 a0_1 a0_2 a0_3 l0_4) = some (r1,r2,r3,r4,r5):=by first | (rw [hy294];with_reducible exact H) | (have H2_:=(Option.bind_some _ _).symm.trans H;rw [hy294];with_reducible exact H2_) | (have H2_:=(Option.bind_some _ _).symm.trans H;with_reducible exact H2_) | with_reducible exact H | (rw [hy294];exact H) | exact H
 have Ny294:=Aside0.mk hy294
 clear hy294
 have H':=Aside0.mk H
 clear H
 go_enter Try.func109,Try.ntmps109
 go_wp2_with (first | ((with_reducible refine gate_dst (N:=1) rfl ?_);refine box_event ?hg (N:=1) ?hd (cs := #[.bool a0_0, .int .u32 a0_1, .bool a0_2, .int .i64 a0_3, .slice A0_4 l0_4.length c0_4]) (t:=45) ?hr ?_;(case hd => rfl);(case hg => rfl);(case hr => first | (go_simp;done) | (go_simp;rfl));intro gb292 hg w2 hbox hb;have n0_:=Aside0.mk (below_step (by repeat (first | (with_reducible first | exact HB.out | apply below_alloc | apply pw_below_drewN | apply below_drew1) | exact HB.out)) hb);have n1_:=Aside0.mk (hbox);have n2_:=Aside0.mk ((by rw [hg];exact (below_size (by repeat (first | (with_reducible first | exact HB.out | apply below_alloc | apply pw_below_drewN | apply below_drew1) | exact HB.out))) : w.heap.size ≤ gb292));have n3_:=Aside0.mk ((by rw [hg];exact (below_size (by repeat (first | (with_reducible first | exact HB.out | apply below_alloc | apply pw_below_drewN | apply below_drew1) | exact HB.out))) : w.heap.size ≤ gb292));clear HB;have HB:=n0_;have BK292:=n1_;have GW292:=n2_;have GE292:=n3_;clear n0_ n1_ n2_ n3_;clear hb hbox hg) | ((with_reducible refine gate_dst (N:=2) rfl ?_);refine box_event ?hg (N:=2) ?hd (cs := #[.bool false, .int .u32 0, .bool false, .int .i64 0, .slice none 0 0]) (t:=45) ?hr ?_;(case hd => rfl);(case hg => rfl);(case hr => first | (go_simp;done) | (go_simp;rfl));intro gb293 hg w3 hbox hb;have n0_:=Aside0.mk (blk_below (g:=gb292) (o := .cells #[.bool a0_0, .int .u32 a0_1, .bool a0_2, .int .i64 a0_3, .slice A0_4 l0_4.length c0_4] 45 (0,0)) (by (with_reducible repeat (first | refine blk_drewN ?_ _ | refine blk_drew ?_ | refine blk_alloc ?_ _));exact BK292.out) hb);have n1_:=Aside0.mk (below_step (by repeat (first | (with_reducible first | exact HB.out | apply below_alloc | apply pw_below_drewN | apply below_drew1 | refine below_set ?_ GE292.out) | exact HB.out)) hb);have n2_:=Aside0.mk (hbox);have n3_:=Aside0.mk ((by rw [hg];exact (below_size (by repeat (first | (with_reducible first | exact HB.out | apply below_alloc | apply pw_below_drewN | apply below_drew1 | refine below_set ?_ GE292.out) | exact HB.out))) : w.heap.size ≤ gb293));have n4_:=Aside0.mk ((by rw [hg];exact (below_size (by repeat (first | (with_reducible first | exact HB.out | apply below_alloc | apply pw_below_drewN | apply below_drew1 | refine below_set ?_ GE292.out) | exact HB.out))) : w.heap.size ≤ gb293));have n5_:=Aside0.mk ((by rw [hg];exact Nat.ne_of_lt (blk_lt (g:=gb292) (o := .cells #[.bool a0_0, .int .u32 a0_1, .bool a0_2, .int .i64 a0_3, .slice A0_4 l0_4.length c0_4] 45 (0,0)) (by (with_reducible repeat (first | refine blk_drewN ?_ _ | refine blk_drew ?_ | refine blk_alloc ?_ _));exact BK292.out)) : gb292 ≠ gb293));have n6_:=Aside0.mk ((by rw [hg];exact Nat.ne_of_gt (blk_lt (g:=gb292) (o := .cells #[.bool a0_0, .int .u32 a0_1, .bool a0_2, .int .i64 a0_3, .slice A0_4 l0_4.length c0_4] 45 (0,0)) (by (with_reducible repeat (first | refine blk_drewN ?_ _ | refine blk_drew ?_ | refine blk_alloc ?_ _));exact BK292.out)) : gb293 ≠ gb292));clear BK292;clear HB;have BK292:=n0_;have HB:=n1_;have BK293:=n2_;have GW293:=n3_;have GE293:=n4_;have NB292_293:=n5_;have NB293_292:=n6_;clear n0_ n1_ n2_ n3_ n4_ n5_ n6_;clear hb hbox hg) | ((with_reducible refine gate_dst (N:=5) rfl ?_);refine Kd.R_lit (Kd.int .u8) _ 5 ?hg (N:=5) ?hd (xs:=([] : List Int)) (inner := []) (ok:=fun _ => True) (okp:=fun _ => True) ?hr ?hp (fun _ hk => hk) trivial (Below.refl _ _) (Nat.le_refl _) (by simp) ?_;(case hd => rfl);(case hg => rfl);(case hr => first | (go_simp;done) | (go_simp;rfl));(case hp => exact (Reps.none _ _));intro v295 w4 ho5 hb hg_ hnew_;clear hg_ hnew_;(first | rw [← Ny294.out] at ho5 | (simp only [Int.reduceToNat] at ho5;rw [← Ny294.out] at ho5));have n0_:=Aside0.mk (Kd.R_lower ho5 (below_size (by repeat (first | (with_reducible first | exact HB.out | apply below_alloc | apply pw_below_drewN | apply below_drew1 | refine below_set ?_ GE292.out | refine below_set ?_ GE293.out) | exact HB.out))));have n1_:=Aside0.mk (blk_below (g:=gb292) (o := .cells #[.bool a0_0, .int .u32 a0_1, .bool a0_2, .int .i64 a0_3, .slice A0_4 l0_4.length c0_4] 45 (0,0)) (by (with_reducible repeat (first | refine blk_drewN ?_ _ | refine blk_drew ?_ | refine blk_alloc ?_ _));exact BK292.out) hb);have n2_:=Aside0.mk (blk_below (g:=gb293) (o := .cells #[.bool false, .int .u32 0, .bool false, .int .i64 0, .slice none 0 0] 45 (0,0)) (by (with_reducible repeat (first | refine blk_drewN ?_ _ | refine blk_drew ?_ | refine blk_alloc ?_ _));exact BK293.out) hb);have n3_:=Aside0.mk (below_step (by repeat (first | (with_reducible first | exact HB.out | apply below_alloc | apply pw_below_drewN | apply below_drew1 | refine below_set ?_ GE292.out | refine below_set ?_ GE293.out) | exact HB.out)) hb);clear BK292;clear BK293;clear HB;have HO296:=n0_;have BK292:=n1_;have BK293:=n2_;have HB:=n3_;clear n0_ n1_ n2_ n3_;clear hb ho5))
 go_loopg [3,4] k (fun kq v3 v4 w' => ∃ (x3_1 : List Int) (x4_1 : Int),v4 = .int .i64 x4_1 ∧ Aside0 (spec_l1copyFrame.l0 kq x3_1 x4_1 a0_0 a0_1 a0_2 a0_3 l0_4 = some (r1,r2,r3,r4,r5)) ∧ Aside0 (kq ≤ k) ∧ Aside0 (Kd.R (Kd.int .u8) 5 w' w.heap.size (fun _ => True) v3 x3_1) ∧ Aside0 (w'.heap[gb292]? = some (.cells #[.bool a0_0, .int .u32 a0_1, .bool a0_2, .int .i64 a0_3,(.slice A0_4 l0_4.length c0_4)] 45 (0,0))) ∧ Aside0 (w'.heap[gb293]? = some (.cells #[.bool false, .int .u32 0, .bool false, .int .i64 0,(.slice none 0 0)] 45 (0,0))) ∧ Aside0 (Below w.heap.size w w'))
 case atStart => exact ⟨(y294),(0),(by first | rfl | (simp;done) | (simp [*];done)),H',⟨Nat.le_refl _⟩,⟨by (with_reducible repeat (first | apply Kd.R_alloc | apply Kd.R_drewN | apply Kd.R_drew));exact HO296.out⟩,⟨by (with_reducible repeat (first | refine blk_drewN ?_ _ | refine blk_drew ?_ | refine blk_alloc ?_ _));exact BK292.out⟩,⟨by (with_reducible repeat (first | refine blk_drewN ?_ _ | refine blk_drew ?_ | refine blk_alloc ?_ _));exact BK293.out⟩,⟨by repeat (first | (with_reducible first | exact HB.out | apply below_alloc | apply pw_below_drewN | apply below_drew1 | refine below_set ?_ GE292.out | refine below_set ?_ GE293.out) | exact HB.out)⟩⟩
 case round =>
  clear H'
  try clear c1
  try clear p2
  obtain ⟨x3_1,x4_1,rfl,HA,HK1,HO_3,BK292,BK293,HB⟩:=hrel
  cases gk with
  | zero => exact absurd HA.out (by simp [spec_l1copyFrame.l0])
  | succ k1 =>
   have H:=HA.out
   clear HA
   simp only [spec_l1copyFrame.l0] at H
   by_cases c6 : x4_1 < (l0_4.length : Int)
   ·rw [if_pos c6] at H
    have c6b0 : decide (x4_1 < (l0_4.length : Int)) = true:=decide_eq_true c6
    clear c6
    by_cases c7 : 0 ≤ x4_1
    ·rw [if_pos c7] at H
     have c7b0 : decide (0 ≤ x4_1) = true:=decide_eq_true c7
     clear c7
     by_cases c8 : x3_1.length < 140737488355328
     ·rw [if_pos c8] at H
      have LMc8:=Aside0.mk c8
      clear c8
      obtain ⟨y298,hy298⟩ : ∃ y_ : List Int,y_ = (x3_1 ++ [rd l0_4 x4_1]):=⟨_,rfl⟩
      replace H : (spec_l1copyFrame.l0 k1 y298 (wrap64 (x4_1 + 1)) a0_0 a0_1 a0_2 a0_3 l0_4) = some (r1,r2,r3,r4,r5):=by first | (rw [hy298];with_reducible exact H) | (have H2_:=(Option.bind_some _ _).symm.trans H;rw [hy298];with_reducible exact H2_) | (have H2_:=(Option.bind_some _ _).symm.trans H;with_reducible exact H2_) | with_reducible exact H | (rw [hy298];exact H) | exact H
      have Ny298:=Aside0.mk hy298
      clear hy298
      have H':=Aside0.mk H
      clear H
      have hnb9:=NB292_293.out
      have hnc9:=NB293_292.out
      obtain ⟨hcz10_0,hcz10_1,hcz10_2,hcz10_3,hcz10_4⟩:=bc5 BK292.out
      obtain ⟨hfz10_0,hfz10_1,hfz10_2,hfz10_3,hfz10_4⟩:=bf5 BK292.out
      have p297 : 0 ≤ (x4_1 : Int):=of_decide_eq_true (by first | (with_reducible assumption) | assumption)
      have q297 : x4_1 < (l0_4.length : Int):=of_decide_eq_true (by first | (with_reducible assumption) | assumption)
      obtain ⟨ad297,e297,hx297_0⟩:=Kd.at_int HR0_4.out x4_1 p297 q297
      cases e297
      replace hx297_0:=(HB.out.cell (World.block_lt_of_cell? w _ hx297_0)).trans hx297_0
      replace p297:=eq_true p297
      replace q297:=eq_true q297
      go_wp2_with (first | ((with_reducible refine gate_builtin (b := .append) (xs := #[.tmp 13, .tmp 19]) rfl ?_);at_builtin;refine Kd.R_append (Kd.int .u8) (w0:=w) w.heap.size rfl (.tmp 13) (.tmp 19) 42 5 (.int .u8 0) 1 rfl Try.underlying42 info5 rfl (by decide) (by omega) u3 x3_1 (rd l0_4 x4_1) [.int .u8 (rd l0_4 x4_1)] (fun _ => True) (fun _ => False) rfl rfl ?aP (fun _ hk => hk.elim) ?aF ?aO ?aB ?aS ?aL ?_;(case aP => exact rfl);(case aB => exact (by repeat (first | (with_reducible first | exact HB.out | apply below_alloc | apply pw_below_drewN | apply below_drew1 | refine below_set ?_ GE292.out | refine below_set ?_ GE293.out) | exact HB.out)));(case aF => exact (fun _ _ => trivial));(case aO => exact (by (with_reducible repeat (first | apply Kd.R_alloc | apply Kd.R_drewN | apply Kd.R_drew));exact HO_3.out));(case aS => exact (below_size (by repeat (first | (with_reducible first | exact HB.out | apply below_alloc | apply pw_below_drewN | apply below_drew1 | refine below_set ?_ GE292.out | refine below_set ?_ GE293.out) | exact HB.out))));(case aL => have:=LMc8.out;omega);intro v299 w11 ho hb hg hat;rw [← Ny298.out] at ho;have n0_:=Aside0.mk (blk_grown (g:=gb292) (o := .cells #[.bool a0_0, .int .u32 a0_1, .bool a0_2, .int .i64 a0_3, .slice (some ad297) l0_4.length c0_4] 45 (0,0)) (by (with_reducible repeat (first | refine blk_drewN ?_ _ | refine blk_drew ?_ | refine blk_alloc ?_ _));exact BK292.out) hg (Kd.R_ne HO_3.out BK292.out (by decide)));have n1_:=Aside0.mk (blk_grown (g:=gb293) (o := .cells #[.bool false, .int .u32 0, .bool false, .int .i64 0, .slice none 0 0] 45 (0,0)) (by (with_reducible repeat (first | refine blk_drewN ?_ _ | refine blk_drew ?_ | refine blk_alloc ?_ _));exact BK293.out) hg (Kd.R_ne HO_3.out BK293.out (by decide)));have n2_:=Aside0.mk (hb);have n3_:=Aside0.mk (ho);clear BK292;clear BK293;clear HB;clear HO_3;have BK292:=n0_;have BK293:=n1_;have HB:=n2_;have HO300:=n3_;clear n0_ n1_ n2_ n3_;clear ho hb hg hat))
      go_roundg k1
      case measure => have:=HK1.out;omega
      case rel => exact ⟨(y298),(wrap64 (x4_1 + 1)),(by first | rfl | (simp;done) | (simp [*];done)),H',⟨by have:=HK1.out;omega⟩,⟨by (with_reducible repeat (first | apply Kd.R_alloc | apply Kd.R_drewN | apply Kd.R_drew));exact HO300.out⟩,⟨by (with_reducible repeat (first | refine blk_drewN ?_ _ | refine blk_drew ?_ | refine blk_alloc ?_ _));exact BK292.out⟩,⟨by (with_reducible repeat (first | refine blk_drewN ?_ _ | refine blk_drew ?_ | refine blk_alloc ?_ _));exact BK293.out⟩,⟨by repeat (first | (with_reducible first | exact HB.out | apply below_alloc | apply pw_below_drewN | apply below_drew1 | refine below_set ?_ GE292.out | refine below_set ?_ GE293.out) | exact HB.out)⟩⟩
     ·rw [if_neg c8] at H
      exact absurd H (by simp)
    ·rw [if_neg c7] at H
     exact absurd H (by simp)
   ·rw [if_neg c6] at H
    have c6b0 : decide (x4_1 < (l0_4.length : Int)) = false:=decide_eq_false c6
    clear c6
    simp only [Option.some.injEq,Prod.mk.injEq] at H
    obtain ⟨rfl,rfl,rfl,rfl,rfl⟩:=H
    have hnb12:=NB292_293.out
    have hnc12:=NB293_292.out
    obtain ⟨hcz13_0,hcz13_1,hcz13_2,hcz13_3,hcz13_4⟩:=bc5 BK292.out
    obtain ⟨hfz13_0,hfz13_1,hfz13_2,hfz13_3,hfz13_4⟩:=bf5 BK292.out
    obtain ⟨Ao14,co14,eo14⟩:=Kd.R_slice HO_3.out
    subst eo14
    obtain ⟨hcz15_0,hcz15_1,hcz15_2,hcz15_3,hcz15_4⟩:=bc5 BK293.out
    obtain ⟨hfz15_0,hfz15_1,hfz15_2,hfz15_3,hfz15_4⟩:=bf5 BK293.out
    go_wp2
    refine bodyPost_ret (results_cell_row rfl _ _ gb293 45 #[.bool a0_0, .int .u32 a0_1, .bool a0_2, .int .i64 a0_3, .slice Ao14 x3_1.length co14] (0,0) _ rfl (by (with_reducible repeat (first | refine blk_drewN ?_ _ | refine blk_drew ?_ | refine blk_alloc ?_ _));refine blk_put (cs := #[.bool a0_0, .int .u32 a0_1, .bool a0_2, .int .i64 a0_3, .slice none 0 0]) ?_ 4 _ rfl;(with_reducible repeat (first | refine blk_drewN ?_ _ | refine blk_drew ?_ | refine blk_alloc ?_ _));refine blk_put (cs := #[.bool a0_0, .int .u32 a0_1, .bool a0_2, .int .i64 0, .slice none 0 0]) ?_ 3 _ rfl;(with_reducible repeat (first | refine blk_drewN ?_ _ | refine blk_drew ?_ | refine blk_alloc ?_ _));refine blk_put (cs := #[.bool a0_0, .int .u32 a0_1, .bool false, .int .i64 0, .slice none 0 0]) ?_ 2 _ rfl;(with_reducible repeat (first | refine blk_drewN ?_ _ | refine blk_drew ?_ | refine blk_alloc ?_ _));refine blk_put (cs := #[.bool a0_0, .int .u32 0, .bool false, .int .i64 0, .slice none 0 0]) ?_ 1 _ rfl;(with_reducible repeat (first | refine blk_drewN ?_ _ | refine blk_drew ?_ | refine blk_alloc ?_ _));refine blk_put (cs := #[.bool false, .int .u32 0, .bool false, .int .i64 0, .slice none 0 0]) ?_ 0 _ rfl;(with_reducible repeat (first | refine blk_drewN ?_ _ | refine blk_drew ?_ | refine blk_alloc ?_ _));exact BK293.out) Try.underlying45 rfl (by kernel_rfl)) rfl ?_
    exact ⟨_,by first | rfl | (simp [errW_none,errW_some] <;> rfl) | (simp [*,errW_none,errW_some] <;> rfl),by (with_reducible repeat (first | apply Kd.R_alloc | apply Kd.R_drewN | apply Kd.R_drew));exact Kd.R_mono (Kd.R_far (p:=⟨gb293,4,none⟩) (Kd.R_far (p:=⟨gb293,3,none⟩) (Kd.R_far (p:=⟨gb293,2,none⟩) (Kd.R_far (p:=⟨gb293,1,none⟩) (Kd.R_far (p:=⟨gb293,0,none⟩) (Kd.R_types HO_3.out BK293.out (by decide)) (fun _ hk => hk.2) (.bool a0_0)) (fun _ hk => hk.2) (.int .u32 a0_1)) (fun _ hk => hk.2) (.bool a0_2)) (fun _ hk => hk.2) (.int .i64 a0_3)) (fun _ hk => hk.2) (.slice Ao14 x3_1.length co14)) (fun _ hk => trivial),by repeat (first | (with_reducible first | exact HB.out | apply below_alloc | apply pw_below_drewN | apply below_drew1 | refine below_set ?_ GE292.out | refine below_set ?_ GE293.out) | exact HB.out)⟩
def spec_l3copyEvents.l0 : Nat → List (S56) → List (S56) → Int → Option ((List (S56)))
 | 0,_,_,_ => none
 | k + 1,x0,x3,x4 => if x4 < (x0.length : Int) then (if 0 ≤ x4 then ((spec_l1copyFrame.f k ((rd_T56 x0 x4).f3.f0) ((rd_T56 x0 x4).f3.f1) ((rd_T56 x0 x4).f3.f2) ((rd_T56 x0 x4).f3.f3) ((rd_T56 x0 x4).f3.f4)).bind fun bt306 => (if x3.length < 1954687338268 then (spec_l3copyEvents.l0 k x0 (x3 ++ [(⟨(rd_T56 x0 x4).f0,(rd_T56 x0 x4).f1,(rd_T56 x0 x4).f2,(⟨bt306.1,bt306.2.1,bt306.2.2.1,bt306.2.2.2.1,bt306.2.2.2.2⟩ : S45)⟩ : S56)]) (wrap64 (x4 + 1))) else (none))) else (none)) else (some x3)
def spec_l3copyEvents.f (k : Nat) (l0 : List (S56)) : Option ((List (S56))):=spec_l3copyEvents.l0 k l0 (([] : List (S56))) 0
set_option maxHeartbeats 8000000 in
set_option maxRecDepth 100000 in
theorem spec_l3copyEvents.calls (k : Nat) (A0 : Option Addr) (c0 : Nat) (l0 : List (S56)) (r : List (S56)) (w : World) (hr0 : Kd.C k56 w A0 l0.length l0) (hc0 : l0.length ≤ c0) (h : spec_l3copyEvents.f k l0 = some r) :
  Calls Try.prog 97 #[.slice A0 l0.length c0] w fun e w' => ∃ v0_ : Value,e = .returned (v0_) ∧ Kd.S k56 56 w' w.heap.size (fun _ => True) v0_ r ∧ Below w.heap.size w w':=by
 have hu56:=Try.underlying56
 have hu45:=Try.underlying45
 have HR0:=Aside0.mk hr0
 have HC0:=Aside0.mk hc0
 clear hr0 hc0
 have HB:=Aside0.mk (Below.refl w.heap.size w)
 have H : (spec_l3copyEvents.l0 k l0 (([] : List (S56))) 0) = some r:=h
 clear h
 obtain ⟨y301,hy301⟩ : ∃ y_ : List (S56),y_ = (([] : List (S56))):=⟨_,rfl⟩
 replace H : (spec_l3copyEvents.l0 k l0 y301 0) = some r:=by first | (rw [hy301];with_reducible exact H) | (have H2_:=(Option.bind_some _ _).symm.trans H;rw [hy301];with_reducible exact H2_) | (have H2_:=(Option.bind_some _ _).symm.trans H;with_reducible exact H2_) | with_reducible exact H | (rw [hy301];exact H) | exact H
 have Ny301:=Aside0.mk hy301
 clear hy301
 have H':=Aside0.mk H
 clear H
 go_enter Try.func97,Try.ntmps97
 go_wp2_with (first | ((with_reducible refine gate_dst (N:=6) rfl ?_);refine Kd.S_lit k56 _ 56 ?hg (N:=6) ?hd (xs:=([] : List (S56))) (inner := []) (ok:=fun _ => True) (okp:=fun _ => True) ?hr ?hp (fun _ hk => hk) trivial (Below.refl _ _) (Nat.le_refl _) (by simp) ?_;(case hd => rfl);(case hg => rfl);(case hr => first | (go_simp;done) | (go_simp;rfl));(case hp => exact (Reps.none _ _));intro v302 w2 ho3 hb hg_ hnew_;clear hg_ hnew_;(first | rw [← Ny301.out] at ho3 | (simp only [Int.reduceToNat] at ho3;rw [← Ny301.out] at ho3));have n0_:=Aside0.mk (Kd.S_lower ho3 (below_size (by repeat (first | (with_reducible first | exact HB.out | apply below_alloc | apply pw_below_drewN | apply below_drew1) | exact HB.out))));have n1_:=Aside0.mk (below_step (by repeat (first | (with_reducible first | exact HB.out | apply below_alloc | apply pw_below_drewN | apply below_drew1) | exact HB.out)) hb);clear HB;have HO303:=n0_;have HB:=n1_;clear n0_ n1_;clear hb ho3))
 go_loopg [3,4] k (fun kq v3 v4 w' => ∃ (x3_1 : List (S56)) (x4_1 : Int),v4 = .int .i64 x4_1 ∧ Aside0 (spec_l3copyEvents.l0 kq l0 x3_1 x4_1 = some r) ∧ Aside0 (kq ≤ k) ∧ Aside0 (Kd.S k56 56 w' w.heap.size (fun _ => True) v3 x3_1) ∧ Aside0 (Below w.heap.size w w'))
 case atStart => exact ⟨(y301),(0),(by first | rfl | (simp;done) | (simp [*];done)),H',⟨Nat.le_refl _⟩,⟨by (with_reducible repeat (first | apply Kd.S_alloc | apply Kd.S_drewN | apply Kd.S_drew));exact HO303.out⟩,⟨by repeat (first | (with_reducible first | exact HB.out | apply below_alloc | apply pw_below_drewN | apply below_drew1) | exact HB.out)⟩⟩
 case round =>
  clear H'
  try clear p2
  obtain ⟨x3_1,x4_1,rfl,HA,HK1,HO_3,HB⟩:=hrel
  cases gk with
  | zero => exact absurd HA.out (by simp [spec_l3copyEvents.l0])
  | succ k1 =>
   have H:=HA.out
   clear HA
   simp only [spec_l3copyEvents.l0] at H
   by_cases c4 : x4_1 < (l0.length : Int)
   ·rw [if_pos c4] at H
    have c4b0 : decide (x4_1 < (l0.length : Int)) = true:=decide_eq_true c4
    clear c4
    by_cases c5 : 0 ≤ x4_1
    ·rw [if_pos c5] at H
     have c5b0 : decide (0 ≤ x4_1) = true:=decide_eq_true c5
     clear c5
     replace H:=Option.bind_eq_some_iff.mp H
     obtain ⟨⟨t306,t307,t308,t309,t310⟩,A60,H⟩:=H
     replace H : (if x3_1.length < 1954687338268 then (spec_l3copyEvents.l0 k1 l0 (x3_1 ++ [(⟨(rd_T56 l0 x4_1).f0,(rd_T56 l0 x4_1).f1,(rd_T56 l0 x4_1).f2,(⟨t306,t307,t308,t309,t310⟩ : S45)⟩ : S56)]) (wrap64 (x4_1 + 1))) else (none)) = some r:=H
     have A6:=Aside0.mk A60
     clear A60
     by_cases c7 : x3_1.length < 1954687338268
     ·rw [if_pos c7] at H
      have LMc7:=Aside0.mk c7
      clear c7
      obtain ⟨y313,hy313⟩ : ∃ y_ : List (S56),y_ = (x3_1 ++ [(⟨(rd_T56 l0 x4_1).f0,(rd_T56 l0 x4_1).f1,(rd_T56 l0 x4_1).f2,(⟨t306,t307,t308,t309,t310⟩ : S45)⟩ : S56)]):=⟨_,rfl⟩
      replace H : (spec_l3copyEvents.l0 k1 l0 y313 (wrap64 (x4_1 + 1))) = some r:=by first | (rw [hy313];with_reducible exact H) | (have H2_:=(Option.bind_some _ _).symm.trans H;rw [hy313];with_reducible exact H2_) | (have H2_:=(Option.bind_some _ _).symm.trans H;with_reducible exact H2_) | with_reducible exact H | (rw [hy313];exact H) | exact H
      have Ny313:=Aside0.mk hy313
      clear hy313
      have H':=Aside0.mk H
      clear H
      have p304 : 0 ≤ (x4_1 : Int):=of_decide_eq_true (by first | (with_reducible assumption) | assumption)
      have q304 : x4_1 < (l0.length : Int):=of_decide_eq_true (by first | (with_reducible assumption) | assumption)
      obtain ⟨ad304,A304_7,c304_7,e304,hx304_0,hx304_1,hx304_2,hx304_3,hx304_4,hx304_5,hx304_6,hx304_7,hl304_7,hi304_7⟩:=at_T56 HR0.out x4_1 p304 q304
      cases e304
      replace hx304_0:=(HB.out.cell (World.block_lt_of_cell? w _ hx304_0)).trans hx304_0
      replace hx304_1:=(HB.out.cell (World.block_lt_of_cell? w _ hx304_1)).trans hx304_1
      replace hx304_2:=(HB.out.cell (World.block_lt_of_cell? w _ hx304_2)).trans hx304_2
      replace hx304_3:=(HB.out.cell (World.block_lt_of_cell? w _ hx304_3)).trans hx304_3
      replace hx304_4:=(HB.out.cell (World.block_lt_of_cell? w _ hx304_4)).trans hx304_4
      replace hx304_5:=(HB.out.cell (World.block_lt_of_cell? w _ hx304_5)).trans hx304_5
      replace hx304_6:=(HB.out.cell (World.block_lt_of_cell? w _ hx304_6)).trans hx304_6
      replace hx304_7:=(HB.out.cell (World.block_lt_of_cell? w _ hx304_7)).trans hx304_7
      have HR304_7:=Aside0.mk hi304_7
      have HC304_7:=Aside0.mk hl304_7
      clear hi304_7 hl304_7
      replace p304:=eq_true p304
      replace q304:=eq_true q304
      go_wp2_with (first | ((with_reducible refine gate_dst (N:=5) rfl ?_);refine box_event ?hg (N:=5) ?hd (cs := #[.int .i64 0, .int .i64 0, .int .i64 0, .bool false, .int .u32 0, .bool false, .int .i64 0, .slice none 0 0]) (t:=56) ?hr ?_;(case hd => rfl);(case hg => rfl);(case hr => first | (go_simp;done) | (go_simp;rfl));intro gb305 hg w8 hbox hb;have n0_:=Aside0.mk (Kd.S_below (Kd.S_elderB (by (with_reducible repeat (first | apply Kd.S_alloc | apply Kd.S_drewN | apply Kd.S_drew));exact HO_3.out) gb305 (Nat.le_of_eq hg.symm)) hb);have n1_:=Aside0.mk (below_step (by repeat (first | (with_reducible first | exact HB.out | apply below_alloc | apply pw_below_drewN | apply below_drew1) | exact HB.out)) hb);have n2_:=Aside0.mk (hbox);have n3_:=Aside0.mk ((by rw [hg];exact (below_size (by repeat (first | (with_reducible first | exact HB.out | apply below_alloc | apply pw_below_drewN | apply below_drew1) | exact HB.out))) : w.heap.size ≤ gb305));have n4_:=Aside0.mk ((by rw [hg];exact (below_size (by repeat (first | (with_reducible first | exact HB.out | apply below_alloc | apply pw_below_drewN | apply below_drew1) | exact HB.out))) : w.heap.size ≤ gb305));clear HO_3;clear HB;have HO_3:=n0_;have HB:=n1_;have BK305:=n2_;have GW305:=n3_;have GE305:=n4_;clear n0_ n1_ n2_ n3_ n4_;clear hb hbox hg;have hcz9_0 : w8.cell? ⟨gb305,0,none⟩ = some (.int .i64 0):=(blk_cell BK305.out 0).trans rfl;have hcz9_1 : w8.cell? ⟨gb305,1,none⟩ = some (.int .i64 0):=(blk_cell BK305.out 1).trans rfl;have hcz9_2 : w8.cell? ⟨gb305,2,none⟩ = some (.int .i64 0):=(blk_cell BK305.out 2).trans rfl;have hcz9_3 : w8.cell? ⟨gb305,3,none⟩ = some (.bool false):=(blk_cell BK305.out 3).trans rfl;have hcz9_4 : w8.cell? ⟨gb305,4,none⟩ = some (.int .u32 0):=(blk_cell BK305.out 4).trans rfl;have hcz9_5 : w8.cell? ⟨gb305,5,none⟩ = some (.bool false):=(blk_cell BK305.out 5).trans rfl;have hcz9_6 : w8.cell? ⟨gb305,6,none⟩ = some (.int .i64 0):=(blk_cell BK305.out 6).trans rfl;have hcz9_7 : w8.cell? ⟨gb305,7,none⟩ = some (.slice none 0 0):=(blk_cell BK305.out 7).trans rfl;have hfz9_0:=blk_frozen BK305.out 0;have hfz9_1:=blk_frozen BK305.out 1;have hfz9_2:=blk_frozen BK305.out 2;have hfz9_3:=blk_frozen BK305.out 3;have hfz9_4:=blk_frozen BK305.out 4;have hfz9_5:=blk_frozen BK305.out 5;have hfz9_6:=blk_frozen BK305.out 6;have hfz9_7:=blk_frozen BK305.out 7) | ((with_reducible refine gate_callee (f:=109) rfl ?_);refine goesL_ (some 19) rfl rfl Try.func109 (by kernel_rfl) rfl #[.agg #[.bool ((rd_T56 l0 x4_1).f3.f0), .int .u32 ((rd_T56 l0 x4_1).f3.f1), .bool ((rd_T56 l0 x4_1).f3.f2), .int .i64 ((rd_T56 l0 x4_1).f3.f3), .slice A304_7 ((rd_T56 l0 x4_1).f3.f4).length c304_7]] rfl (by (try simp only [List.map_toArray,List.map_cons,List.map_nil]);first | done | rfl | (simp only [List.length_drop,List.length_take];rfl)) ?_;(with_reducible refine (spec_l1copyFrame.calls k1 ((rd_T56 l0 x4_1).f3.f0) ((rd_T56 l0 x4_1).f3.f1) ((rd_T56 l0 x4_1).f3.f2) ((rd_T56 l0 x4_1).f3.f3) _ _ ((rd_T56 l0 x4_1).f3.f4) t306 t307 t308 t309 t310 _ ?side1 ?side2 A6.out).mono ?_);(case side1 => exact Kd.C_below HR304_7.out (by repeat (first | (with_reducible first | exact HB.out | apply below_alloc | apply pw_below_drewN | apply below_drew1 | refine below_set ?_ GE305.out) | exact HB.out)));(case side2 => exact HC304_7.out);rintro e w10 ⟨v311,rfl,ho0,hb⟩;refine ⟨_,rfl, ?_⟩;have n0_:=Aside0.mk (Kd.S_elder' (by (with_reducible repeat (first | apply Kd.S_alloc | apply Kd.S_drewN | apply Kd.S_drew));exact (Kd.S_mono (Kd.S_far (p:=⟨gb305,7,none⟩) (Kd.S_far (p:=⟨gb305,6,none⟩) (Kd.S_far (p:=⟨gb305,5,none⟩) (Kd.S_far (p:=⟨gb305,4,none⟩) (Kd.S_far (p:=⟨gb305,3,none⟩) (Kd.S_far (p:=⟨gb305,2,none⟩) (Kd.S_far (p:=⟨gb305,1,none⟩) (Kd.S_far (p:=⟨gb305,0,none⟩) (Kd.S_mono HO_3.out (fun k_ hk => (⟨hk,hk.2⟩ : _ ∧ k_ ≠ gb305))) (fun _ hk => hk.2) (.int .i64 ((rd_T56 l0 x4_1).f0))) (fun _ hk => hk.2) (.int .i64 ((rd_T56 l0 x4_1).f1))) (fun _ hk => hk.2) (.int .i64 ((rd_T56 l0 x4_1).f2))) (fun _ hk => hk.2) (.bool ((rd_T56 l0 x4_1).f3.f0))) (fun _ hk => hk.2) (.int .u32 ((rd_T56 l0 x4_1).f3.f1))) (fun _ hk => hk.2) (.bool ((rd_T56 l0 x4_1).f3.f2))) (fun _ hk => hk.2) (.int .i64 ((rd_T56 l0 x4_1).f3.f3))) (fun _ hk => hk.2) (.slice A304_7 ((rd_T56 l0 x4_1).f3.f4).length c304_7)) (fun _ h_ => h_.1))) (Kd.R_base ho0) hb);have n1_:=Aside0.mk (Kd.R_lower ho0 (below_size (by repeat (first | (with_reducible first | exact HB.out | apply below_alloc | apply pw_below_drewN | apply below_drew1 | refine below_set ?_ GE305.out) | exact HB.out))));have n2_:=Aside0.mk (blk_below (g:=gb305) (o := .cells #[.int .i64 ((rd_T56 l0 x4_1).f0), .int .i64 ((rd_T56 l0 x4_1).f1), .int .i64 ((rd_T56 l0 x4_1).f2), .bool ((rd_T56 l0 x4_1).f3.f0), .int .u32 ((rd_T56 l0 x4_1).f3.f1), .bool ((rd_T56 l0 x4_1).f3.f2), .int .i64 ((rd_T56 l0 x4_1).f3.f3), .slice A304_7 ((rd_T56 l0 x4_1).f3.f4).length c304_7] 56 (0,0)) (by (with_reducible repeat (first | refine blk_drewN ?_ _ | refine blk_drew ?_ | refine blk_alloc ?_ _));refine blk_put (cs := #[.int .i64 ((rd_T56 l0 x4_1).f0), .int .i64 ((rd_T56 l0 x4_1).f1), .int .i64 ((rd_T56 l0 x4_1).f2), .bool ((rd_T56 l0 x4_1).f3.f0), .int .u32 ((rd_T56 l0 x4_1).f3.f1), .bool ((rd_T56 l0 x4_1).f3.f2), .int .i64 ((rd_T56 l0 x4_1).f3.f3), .slice none 0 0]) ?_ 7 _ rfl;(with_reducible repeat (first | refine blk_drewN ?_ _ | refine blk_drew ?_ | refine blk_alloc ?_ _));refine blk_put (cs := #[.int .i64 ((rd_T56 l0 x4_1).f0), .int .i64 ((rd_T56 l0 x4_1).f1), .int .i64 ((rd_T56 l0 x4_1).f2), .bool ((rd_T56 l0 x4_1).f3.f0), .int .u32 ((rd_T56 l0 x4_1).f3.f1), .bool ((rd_T56 l0 x4_1).f3.f2), .int .i64 0, .slice none 0 0]) ?_ 6 _ rfl;(with_reducible repeat (first | refine blk_drewN ?_ _ | refine blk_drew ?_ | refine blk_alloc ?_ _));refine blk_put (cs := #[.int .i64 ((rd_T56 l0 x4_1).f0), .int .i64 ((rd_T56 l0 x4_1).f1), .int .i64 ((rd_T56 l0 x4_1).f2), .bool ((rd_T56 l0 x4_1).f3.f0), .int .u32 ((rd_T56 l0 x4_1).f3.f1), .bool false, .int .i64 0, .slice none 0 0]) ?_ 5 _ rfl;(with_reducible repeat (first | refine blk_drewN ?_ _ | refine blk_drew ?_ | refine blk_alloc ?_ _));refine blk_put (cs := #[.int .i64 ((rd_T56 l0 x4_1).f0), .int .i64 ((rd_T56 l0 x4_1).f1), .int .i64 ((rd_T56 l0 x4_1).f2), .bool ((rd_T56 l0 x4_1).f3.f0), .int .u32 0, .bool false, .int .i64 0, .slice none 0 0]) ?_ 4 _ rfl;(with_reducible repeat (first | refine blk_drewN ?_ _ | refine blk_drew ?_ | refine blk_alloc ?_ _));refine blk_put (cs := #[.int .i64 ((rd_T56 l0 x4_1).f0), .int .i64 ((rd_T56 l0 x4_1).f1), .int .i64 ((rd_T56 l0 x4_1).f2), .bool false, .int .u32 0, .bool false, .int .i64 0, .slice none 0 0]) ?_ 3 _ rfl;(with_reducible repeat (first | refine blk_drewN ?_ _ | refine blk_drew ?_ | refine blk_alloc ?_ _));refine blk_put (cs := #[.int .i64 ((rd_T56 l0 x4_1).f0), .int .i64 ((rd_T56 l0 x4_1).f1), .int .i64 0, .bool false, .int .u32 0, .bool false, .int .i64 0, .slice none 0 0]) ?_ 2 _ rfl;(with_reducible repeat (first | refine blk_drewN ?_ _ | refine blk_drew ?_ | refine blk_alloc ?_ _));refine blk_put (cs := #[.int .i64 ((rd_T56 l0 x4_1).f0), .int .i64 0, .int .i64 0, .bool false, .int .u32 0, .bool false, .int .i64 0, .slice none 0 0]) ?_ 1 _ rfl;(with_reducible repeat (first | refine blk_drewN ?_ _ | refine blk_drew ?_ | refine blk_alloc ?_ _));refine blk_put (cs := #[.int .i64 0, .int .i64 0, .int .i64 0, .bool false, .int .u32 0, .bool false, .int .i64 0, .slice none 0 0]) ?_ 0 _ rfl;(with_reducible repeat (first | refine blk_drewN ?_ _ | refine blk_drew ?_ | refine blk_alloc ?_ _));exact BK305.out) hb);have n3_:=Aside0.mk (below_step (by repeat (first | (with_reducible first | exact HB.out | apply below_alloc | apply pw_below_drewN | apply below_drew1 | refine below_set ?_ GE305.out) | exact HB.out)) hb);clear HO_3;clear BK305;clear HB;have HO_3:=n0_;have HO312:=n1_;have BK305:=n2_;have HB:=n3_;clear n0_ n1_ n2_ n3_;(try clear hb);(try clear hb2);(try clear hk);(try clear hi);(try clear ho0);have hcz11_0 : w10.cell? ⟨gb305,0,none⟩ = some (.int .i64 ((rd_T56 l0 x4_1).f0)):=(blk_cell BK305.out 0).trans rfl;have hcz11_1 : w10.cell? ⟨gb305,1,none⟩ = some (.int .i64 ((rd_T56 l0 x4_1).f1)):=(blk_cell BK305.out 1).trans rfl;have hcz11_2 : w10.cell? ⟨gb305,2,none⟩ = some (.int .i64 ((rd_T56 l0 x4_1).f2)):=(blk_cell BK305.out 2).trans rfl;have hcz11_3 : w10.cell? ⟨gb305,3,none⟩ = some (.bool ((rd_T56 l0 x4_1).f3.f0)):=(blk_cell BK305.out 3).trans rfl;have hcz11_4 : w10.cell? ⟨gb305,4,none⟩ = some (.int .u32 ((rd_T56 l0 x4_1).f3.f1)):=(blk_cell BK305.out 4).trans rfl;have hcz11_5 : w10.cell? ⟨gb305,5,none⟩ = some (.bool ((rd_T56 l0 x4_1).f3.f2)):=(blk_cell BK305.out 5).trans rfl;have hcz11_6 : w10.cell? ⟨gb305,6,none⟩ = some (.int .i64 ((rd_T56 l0 x4_1).f3.f3)):=(blk_cell BK305.out 6).trans rfl;have hcz11_7 : w10.cell? ⟨gb305,7,none⟩ = some (.slice A304_7 ((rd_T56 l0 x4_1).f3.f4).length c304_7):=(blk_cell BK305.out 7).trans rfl;have hfz11_0:=blk_frozen BK305.out 0;have hfz11_1:=blk_frozen BK305.out 1;have hfz11_2:=blk_frozen BK305.out 2;have hfz11_3:=blk_frozen BK305.out 3;have hfz11_4:=blk_frozen BK305.out 4;have hfz11_5:=blk_frozen BK305.out 5;have hfz11_6:=blk_frozen BK305.out 6;have hfz11_7:=blk_frozen BK305.out 7;obtain ⟨Ao12,co12,eo12⟩:=Kd.R_slice HO312.out;subst eo12) | ((with_reducible refine gate_store (t:=45) (p:=20) rfl ?_);refine store_event (t:=45) (p:=20) (v := ?vo_w13) (w1:=(((((w10.setCell ⟨gb305,3,none⟩ (.bool t306)).setCell ⟨gb305,4,none⟩ (.int .u32 t307)).setCell ⟨gb305,5,none⟩ (.bool t308)).setCell ⟨gb305,6,none⟩ (.int .i64 t309)).setCell ⟨gb305,7,none⟩ (.slice Ao12 t310.length co12))) ?hg ?ho ?hn ?hr ?_;(case ho => rfl);(case hg => rfl);(case hn => rfl);(case hr => first | (go_simp;done) | (go_simp;rfl));intro w13 hw;have n0_ : Aside0 (Kd.S k56 56 w13 w.heap.size (fun k_ => some k_ ≠ (.slice Ao12 t310.length co12 : Value).ownBlock ∧ k_ ≠ gb305) u3 x3_1):=⟨(by rw [hw];exact (by (with_reducible repeat (first | apply Kd.S_alloc | apply Kd.S_drewN | apply Kd.S_drew));exact Kd.S_mono (Kd.S_far (p:=⟨gb305,7,none⟩) (Kd.S_far (p:=⟨gb305,6,none⟩) (Kd.S_far (p:=⟨gb305,5,none⟩) (Kd.S_far (p:=⟨gb305,4,none⟩) (Kd.S_far (p:=⟨gb305,3,none⟩) (Kd.S_mono HO_3.out (fun k_ hk => (⟨hk,hk.1.2⟩ : _ ∧ k_ ≠ gb305))) (fun _ hk => hk.2) (.bool t306)) (fun _ hk => hk.2) (.int .u32 t307)) (fun _ hk => hk.2) (.bool t308)) (fun _ hk => hk.2) (.int .i64 t309)) (fun _ hk => hk.2) (.slice Ao12 t310.length co12)) (fun _ hk => ⟨hk.1.2,hk.1.1.2⟩)))⟩;have n1_ : Aside0 (Kd.R (Kd.int .u8) 5 w13 w.heap.size (fun _ => True) (.slice Ao12 t310.length co12) t310):=⟨(by rw [hw];exact (by (with_reducible repeat (first | apply Kd.R_alloc | apply Kd.R_drewN | apply Kd.R_drew));exact Kd.R_mono (Kd.R_far (p:=⟨gb305,7,none⟩) (Kd.R_far (p:=⟨gb305,6,none⟩) (Kd.R_far (p:=⟨gb305,5,none⟩) (Kd.R_far (p:=⟨gb305,4,none⟩) (Kd.R_far (p:=⟨gb305,3,none⟩) (Kd.R_types HO312.out BK305.out (by decide)) (fun _ hk => hk.2) (.bool t306)) (fun _ hk => hk.2) (.int .u32 t307)) (fun _ hk => hk.2) (.bool t308)) (fun _ hk => hk.2) (.int .i64 t309)) (fun _ hk => hk.2) (.slice Ao12 t310.length co12)) (fun _ hk => trivial)))⟩;have n2_ : Aside0 (w13.heap[gb305]? = some (.cells #[.int .i64 ((rd_T56 l0 x4_1).f0), .int .i64 ((rd_T56 l0 x4_1).f1), .int .i64 ((rd_T56 l0 x4_1).f2), .bool t306, .int .u32 t307, .bool t308, .int .i64 t309, .slice Ao12 t310.length co12] 56 (0,0))):=⟨(by rw [hw];exact (by (with_reducible repeat (first | refine blk_drewN ?_ _ | refine blk_drew ?_ | refine blk_alloc ?_ _));refine blk_put (cs := #[.int .i64 ((rd_T56 l0 x4_1).f0), .int .i64 ((rd_T56 l0 x4_1).f1), .int .i64 ((rd_T56 l0 x4_1).f2), .bool t306, .int .u32 t307, .bool t308, .int .i64 t309, .slice A304_7 ((rd_T56 l0 x4_1).f3.f4).length c304_7]) ?_ 7 _ rfl;(with_reducible repeat (first | refine blk_drewN ?_ _ | refine blk_drew ?_ | refine blk_alloc ?_ _));refine blk_put (cs := #[.int .i64 ((rd_T56 l0 x4_1).f0), .int .i64 ((rd_T56 l0 x4_1).f1), .int .i64 ((rd_T56 l0 x4_1).f2), .bool t306, .int .u32 t307, .bool t308, .int .i64 ((rd_T56 l0 x4_1).f3.f3), .slice A304_7 ((rd_T56 l0 x4_1).f3.f4).length c304_7]) ?_ 6 _ rfl;(with_reducible repeat (first | refine blk_drewN ?_ _ | refine blk_drew ?_ | refine blk_alloc ?_ _));refine blk_put (cs := #[.int .i64 ((rd_T56 l0 x4_1).f0), .int .i64 ((rd_T56 l0 x4_1).f1), .int .i64 ((rd_T56 l0 x4_1).f2), .bool t306, .int .u32 t307, .bool ((rd_T56 l0 x4_1).f3.f2), .int .i64 ((rd_T56 l0 x4_1).f3.f3), .slice A304_7 ((rd_T56 l0 x4_1).f3.f4).length c304_7]) ?_ 5 _ rfl;(with_reducible repeat (first | refine blk_drewN ?_ _ | refine blk_drew ?_ | refine blk_alloc ?_ _));refine blk_put (cs := #[.int .i64 ((rd_T56 l0 x4_1).f0), .int .i64 ((rd_T56 l0 x4_1).f1), .int .i64 ((rd_T56 l0 x4_1).f2), .bool t306, .int .u32 ((rd_T56 l0 x4_1).f3.f1), .bool ((rd_T56 l0 x4_1).f3.f2), .int .i64 ((rd_T56 l0 x4_1).f3.f3), .slice A304_7 ((rd_T56 l0 x4_1).f3.f4).length c304_7]) ?_ 4 _ rfl;(with_reducible repeat (first | refine blk_drewN ?_ _ | refine blk_drew ?_ | refine blk_alloc ?_ _));refine blk_put (cs := #[.int .i64 ((rd_T56 l0 x4_1).f0), .int .i64 ((rd_T56 l0 x4_1).f1), .int .i64 ((rd_T56 l0 x4_1).f2), .bool ((rd_T56 l0 x4_1).f3.f0), .int .u32 ((rd_T56 l0 x4_1).f3.f1), .bool ((rd_T56 l0 x4_1).f3.f2), .int .i64 ((rd_T56 l0 x4_1).f3.f3), .slice A304_7 ((rd_T56 l0 x4_1).f3.f4).length c304_7]) ?_ 3 _ rfl;(with_reducible repeat (first | refine blk_drewN ?_ _ | refine blk_drew ?_ | refine blk_alloc ?_ _));exact BK305.out))⟩;have n3_ : Aside0 (Below w.heap.size w w13):=⟨(by rw [hw];exact (by repeat (first | (with_reducible first | exact HB.out | apply below_alloc | apply pw_below_drewN | apply below_drew1 | refine below_set ?_ GE305.out) | exact HB.out)))⟩;clear hw;clear HO_3;clear HO312;clear BK305;clear HB;have HO_3:=n0_;have HO312:=n1_;have BK305:=n2_;have HB:=n3_;clear n0_ n1_ n2_ n3_;have hcz14_0 : w13.cell? ⟨gb305,0,none⟩ = some (.int .i64 ((rd_T56 l0 x4_1).f0)):=(blk_cell BK305.out 0).trans rfl;have hcz14_1 : w13.cell? ⟨gb305,1,none⟩ = some (.int .i64 ((rd_T56 l0 x4_1).f1)):=(blk_cell BK305.out 1).trans rfl;have hcz14_2 : w13.cell? ⟨gb305,2,none⟩ = some (.int .i64 ((rd_T56 l0 x4_1).f2)):=(blk_cell BK305.out 2).trans rfl;have hcz14_3 : w13.cell? ⟨gb305,3,none⟩ = some (.bool t306):=(blk_cell BK305.out 3).trans rfl;have hcz14_4 : w13.cell? ⟨gb305,4,none⟩ = some (.int .u32 t307):=(blk_cell BK305.out 4).trans rfl;have hcz14_5 : w13.cell? ⟨gb305,5,none⟩ = some (.bool t308):=(blk_cell BK305.out 5).trans rfl;have hcz14_6 : w13.cell? ⟨gb305,6,none⟩ = some (.int .i64 t309):=(blk_cell BK305.out 6).trans rfl;have hcz14_7 : w13.cell? ⟨gb305,7,none⟩ = some (.slice Ao12 t310.length co12):=(blk_cell BK305.out 7).trans rfl;have hfz14_0:=blk_frozen BK305.out 0;have hfz14_1:=blk_frozen BK305.out 1;have hfz14_2:=blk_frozen BK305.out 2;have hfz14_3:=blk_frozen BK305.out 3;have hfz14_4:=blk_frozen BK305.out 4;have hfz14_5:=blk_frozen BK305.out 5;have hfz14_6:=blk_frozen BK305.out 6;have hfz14_7:=blk_frozen BK305.out 7) | ((with_reducible refine gate_builtin (b := .append) (xs := #[.tmp 21, .tmp 23]) rfl ?_);at_builtin;refine Kd.S_append k56 (w0:=w) w.heap.size rfl (.tmp 21) (.tmp 23) 30 56 (.agg #[(.int .i64 0),(.int .i64 0),(.int .i64 0),(.bool false),(.int .u32 0),(.bool false),(.int .i64 0),(.slice none 0 0)]) 72 rfl Try.underlying30 info56 rfl (by decide) (by omega) u3 x3_1 (⟨(rd_T56 l0 x4_1).f0,(rd_T56 l0 x4_1).f1,(rd_T56 l0 x4_1).f2,(⟨t306,t307,t308,t309,t310⟩ : S45)⟩ : S56) [.int .i64 ((rd_T56 l0 x4_1).f0), .int .i64 ((rd_T56 l0 x4_1).f1), .int .i64 ((rd_T56 l0 x4_1).f2), .bool t306, .int .u32 t307, .bool t308, .int .i64 t309, .slice Ao12 t310.length co12] (fun k_ => k_ ≠ gb305) (fun k_ => some k_ = (.slice Ao12 t310.length co12 : Value).ownBlock) rfl rfl ?aP (fun k_ hk_ => ((Kd.R_mono (ok':=fun k_ => ((fun k_ => k_ ≠ gb305)) k_ ∧ some k_ ≠ (u3 : Value).ownBlock) (Kd.R_types (Kd.R_apart' (HO312.out) (Kd.S_typed HO_3.out) (by decide)) BK305.out (by decide)) (fun k_ hk => ⟨hk.2,hk.1.2⟩))).1 k_ hk_.symm) ?aF ?aO ?aB ?aS ?aL ?_;(case aP => exact k56_mkM _ _ _ (⟨(rd_T56 l0 x4_1).f0,(rd_T56 l0 x4_1).f1,(rd_T56 l0 x4_1).f2,(⟨t306,t307,t308,t309,t310⟩ : S45)⟩ : S56) (Kd.R_mono (Kd.R_tight rfl (Kd.R_mono (ok':=fun k_ => ((fun k_ => k_ ≠ gb305)) k_ ∧ some k_ ≠ (u3 : Value).ownBlock) (Kd.R_types (Kd.R_apart' (HO312.out) (Kd.S_typed HO_3.out) (by decide)) BK305.out (by decide)) (fun k_ hk => ⟨hk.2,hk.1.2⟩))) (fun _ h_ => h_)));(case aB => exact (by repeat (first | (with_reducible first | exact HB.out | apply below_alloc | apply pw_below_drewN | apply below_drew1 | refine below_set ?_ GE305.out) | exact HB.out)));(case aF => exact (fun k_ hk => Kd.freshB (g:=gb305) (o := .cells #[.int .i64 ((rd_T56 l0 x4_1).f0), .int .i64 ((rd_T56 l0 x4_1).f1), .int .i64 ((rd_T56 l0 x4_1).f2), .bool t306, .int .u32 t307, .bool t308, .int .i64 t309, .slice Ao12 t310.length co12] 56 (0,0)) (by (with_reducible repeat (first | refine blk_drewN ?_ _ | refine blk_drew ?_ | refine blk_alloc ?_ _));exact BK305.out) k_ hk));(case aO => exact (by (with_reducible repeat (first | apply Kd.S_alloc | apply Kd.S_drewN | apply Kd.S_drew));exact Kd.S_mono HO_3.out (fun k_ hk => ⟨hk.2,fun e_ => hk.1 e_⟩)));(case aS => exact (below_size (by repeat (first | (with_reducible first | exact HB.out | apply below_alloc | apply pw_below_drewN | apply below_drew1 | refine below_set ?_ GE305.out) | exact HB.out))));(case aL => have:=LMc7.out;omega);intro v314 w15 ho hb hg hat;rw [← Ny313.out] at ho;have n0_:=Aside0.mk (blk_grown (g:=gb305) (o := .cells #[.int .i64 ((rd_T56 l0 x4_1).f0), .int .i64 ((rd_T56 l0 x4_1).f1), .int .i64 ((rd_T56 l0 x4_1).f2), .bool t306, .int .u32 t307, .bool t308, .int .i64 t309, .slice Ao12 t310.length co12] 56 (0,0)) (by (with_reducible repeat (first | refine blk_drewN ?_ _ | refine blk_drew ?_ | refine blk_alloc ?_ _));exact BK305.out) hg (Kd.S_away HO_3.out (fun _ hk => hk.2)));have n1_:=Aside0.mk (hb);have n2_:=Aside0.mk (ho);clear BK305;clear HB;clear HO_3;clear HO312;have BK305:=n0_;have HB:=n1_;have HO315:=n2_;clear n0_ n1_ n2_;clear ho hb hg hat))
      go_roundg k1
      case measure => have:=HK1.out;omega
      case rel => exact ⟨(y313),(wrap64 (x4_1 + 1)),(by first | rfl | (simp;done) | (simp [*];done)),H',⟨by have:=HK1.out;omega⟩,⟨by (with_reducible repeat (first | apply Kd.S_alloc | apply Kd.S_drewN | apply Kd.S_drew));exact Kd.S_mono HO315.out (fun _ hk => trivial)⟩,⟨by repeat (first | (with_reducible first | exact HB.out | apply below_alloc | apply pw_below_drewN | apply below_drew1 | refine below_set ?_ GE305.out) | exact HB.out)⟩⟩
     ·rw [if_neg c7] at H
      exact absurd H (by simp)
    ·rw [if_neg c5] at H
     exact absurd H (by simp)
   ·rw [if_neg c4] at H
    have c4b0 : decide (x4_1 < (l0.length : Int)) = false:=decide_eq_false c4
    clear c4
    obtain rfl:=Option.some.inj H
    go_wp2
    go_ret
    exact ⟨_,by first | rfl | (simp [errW_none,errW_some] <;> rfl) | (simp [*,errW_none,errW_some] <;> rfl),by (with_reducible repeat (first | apply Kd.S_alloc | apply Kd.S_drewN | apply Kd.S_drew));exact HO_3.out,by repeat (first | (with_reducible first | exact HB.out | apply below_alloc | apply pw_below_drewN | apply below_drew1) | exact HB.out)⟩
def spec_l3copyBox.f (k : Nat) (a0_0 : Int) (a0_1 : Int) (a0_2 : Int) (a0_3 : Bool) (a0_4 : Int) (a0_5 : Bool) (a0_6 : Int) (l0_7 : List Int) : Option (Int × Int × Int × Bool × Int × Bool × Int × List Int):=(spec_l1copyFrame.f k a0_3 a0_4 a0_5 a0_6 l0_7).bind fun bt318 => (some (a0_0,a0_1,a0_2,bt318.1,bt318.2.1,bt318.2.2.1,bt318.2.2.2.1,bt318.2.2.2.2))
mutual
def spec_l3copy.l0 : Nat → Int → Int → Int → Int → Int → List (S89) → List (S87) → List (S45) → List (S56) → Int → Int → Int → Int → Int → Int → List (S89) → List (S87) → List (S45) → List (S56) → Int → Int → Option (Int × Int × Int × Int × (List (S89)) × (List (S87)) × (List (S45)) × (List (S56)) × Int × Int)
 | 0,_,_,_,_,_,_,_,_,_,_,_,_,_,_,_,_,_,_,_,_,_ => none
 | k + 1,x4,x326000,x326001,x326002,x326003,x326004,x326005,x326006,x326007,x326008,x326009,x328000,x328001,x328002,x328003,x328004,x328005,x328006,x328007,x328008,x328009 => if x4 < (x326004.length : Int) then (if 0 ≤ x4 then (if x328004.length < 11728124029610 then (spec_l3copy.l0 k (wrap64 (x4 + 1)) x326000 x326001 x326002 x326003 x326004 x326005 x326006 x326007 x326008 x326009 x328000 x328001 x328002 x328003 (x328004 ++ [(⟨(rd_T89 x326004 x4).f0,(rd_T89 x326004 x4).f1,(rd_T89 x326004 x4).f2⟩ : S89)]) x328005 x328006 x328007 x328008 x328009) else (none)) else (none)) else (spec_l3copy.l1 k 0 x326000 x326001 x326002 x326003 x326004 x326005 x326006 x326007 x326008 x326009 x328000 x328001 x328002 x328003 x328004 (([] : List (S87))) x328006 x328007 x328008 x328009)
def spec_l3copy.l1 : Nat → Int → Int → Int → Int → Int → List (S89) → List (S87) → List (S45) → List (S56) → Int → Int → Int → Int → Int → Int → List (S89) → List (S87) → List (S45) → List (S56) → Int → Int → Option (Int × Int × Int × Int × (List (S89)) × (List (S87)) × (List (S45)) × (List (S56)) × Int × Int)
 | 0,_,_,_,_,_,_,_,_,_,_,_,_,_,_,_,_,_,_,_,_,_ => none
 | k + 1,x5,x326000,x326001,x326002,x326003,x326004,x326005,x326006,x326007,x326008,x326009,x328000,x328001,x328002,x328003,x328004,x328005,x328006,x328007,x328008,x328009 => if x5 < (x326005.length : Int) then (if 0 ≤ x5 then ((spec_l3copyBox.f k ((rd_T87 x326005 x5).f0) ((rd_T87 x326005 x5).f1) ((rd_T87 x326005 x5).f2) ((rd_T87 x326005 x5).f3.f0) ((rd_T87 x326005 x5).f3.f1) ((rd_T87 x326005 x5).f3.f2) ((rd_T87 x326005 x5).f3.f3) ((rd_T87 x326005 x5).f3.f4)).bind fun bt339 => (if x328005.length < 1954687338268 then (spec_l3copy.l1 k (wrap64 (x5 + 1)) x326000 x326001 x326002 x326003 x326004 x326005 x326006 x326007 x326008 x326009 x328000 x328001 x328002 x328003 x328004 (x328005 ++ [(⟨bt339.1,bt339.2.1,bt339.2.2.1,(⟨bt339.2.2.2.1,bt339.2.2.2.2.1,bt339.2.2.2.2.2.1,bt339.2.2.2.2.2.2.1,bt339.2.2.2.2.2.2.2⟩ : S45)⟩ : S87)]) x328006 x328007 x328008 x328009) else (none))) else (none)) else (spec_l3copy.l2 k 0 x326000 x326001 x326002 x326003 x326004 x326005 x326006 x326007 x326008 x326009 x328000 x328001 x328002 x328003 x328004 x328005 (([] : List (S45))) x328007 x328008 x328009)
def spec_l3copy.l2 : Nat → Int → Int → Int → Int → Int → List (S89) → List (S87) → List (S45) → List (S56) → Int → Int → Int → Int → Int → Int → List (S89) → List (S87) → List (S45) → List (S56) → Int → Int → Option (Int × Int × Int × Int × (List (S89)) × (List (S87)) × (List (S45)) × (List (S56)) × Int × Int)
 | 0,_,_,_,_,_,_,_,_,_,_,_,_,_,_,_,_,_,_,_,_,_ => none
 | k + 1,x6,x326000,x326001,x326002,x326003,x326004,x326005,x326006,x326007,x326008,x326009,x328000,x328001,x328002,x328003,x328004,x328005,x328006,x328007,x328008,x328009 => if x6 < (x326006.length : Int) then (if 0 ≤ x6 then ((spec_l1copyFrame.f k ((rd_T45 x326006 x6).f0) ((rd_T45 x326006 x6).f1) ((rd_T45 x326006 x6).f2) ((rd_T45 x326006 x6).f3) ((rd_T45 x326006 x6).f4)).bind fun bt356 => (if x328006.length < 2932031007402 then (spec_l3copy.l2 k (wrap64 (x6 + 1)) x326000 x326001 x326002 x326003 x326004 x326005 x326006 x326007 x326008 x326009 x328000 x328001 x328002 x328003 x328004 x328005 (x328006 ++ [(⟨bt356.1,bt356.2.1,bt356.2.2.1,bt356.2.2.2.1,bt356.2.2.2.2⟩ : S45)]) x328007 x328008 x328009) else (none))) else (none)) else ((spec_l3copyEvents.f k x326007).bind fun t366 => (some (x328000,x328001,x328002,x328003,x328004,x328005,x328006,t366,x328008,x328009)))
end
def spec_l3copy.f (k : Nat) (a0_0 : Int) (a0_1 : Int) (a0_2 : Int) (a0_3 : Int) (l0_4 : List (S89)) (l0_5 : List (S87)) (l0_6 : List (S45)) (l0_7 : List (S56)) (a0_8 : Int) (a0_9 : Int) : Option (Int × Int × Int × Int × (List (S89)) × (List (S87)) × (List (S45)) × (List (S56)) × Int × Int):=spec_l3copy.l0 k 0 a0_0 a0_1 a0_2 a0_3 l0_4 l0_5 l0_6 l0_7 a0_8 a0_9 a0_0 a0_1 a0_2 a0_3 (([] : List (S89))) l0_5 l0_6 l0_7 a0_8 a0_9
def spec_NewHost.l0 : Nat → Int → Int → Int → Int → Int → Int → Int → Int → Int → List (S89) → List (S87) → Int → Int → Option (Int × Int × Int × Int × (List (S89)) × (List (S87)) × (List (S45)) × (List (S56)) × Int × Int × Int)
 | 0,_,_,_,_,_,_,_,_,_,_,_,_,_ => none
 | k + 1,x7,x370000,x370001,x370002,x370003,x374000,x374001,x374002,x374003,x374004,x374005,x374008,x374009 => if x7 < x370000 then (if x374005.length < 1954687338268 then (spec_NewHost.l0 k (wrap64 (x7 + 1)) x370000 x370001 x370002 x370003 x374000 x374001 x374002 x374003 x374004 (x374005 ++ [(⟨0,0,0,(⟨false,0,false,0,([] : List Int)⟩ : S45)⟩ : S87)]) x374008 x374009) else (none)) else ((spec_l3copy.f k x374000 x374001 x374002 x374003 x374004 x374005 ([] : List (S45)) ([] : List (S56)) x374008 x374009).bind fun bt377 => (some (bt377.1,bt377.2.1,bt377.2.2.1,bt377.2.2.2.1,bt377.2.2.2.2.1,bt377.2.2.2.2.2.1,bt377.2.2.2.2.2.2.1,bt377.2.2.2.2.2.2.2.1,bt377.2.2.2.2.2.2.2.2.1,bt377.2.2.2.2.2.2.2.2.2,0)))
end Go.Proofs.Ytcaefabbcjlkdaa.P
