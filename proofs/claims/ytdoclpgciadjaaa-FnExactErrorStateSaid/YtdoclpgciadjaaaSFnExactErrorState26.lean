/- Texts of the proof of FnExactErrorState, joined. -/
import Derived.Test.YtdoclpgciadjaaaSFnExactErrorState22
import Derived.Test.YtdoclpgciadjaaaSFnExactErrorState23
import Derived.Test.YtdoclpgciadjaaaSFnExactErrorState24
import Derived.Test.YtdoclpgciadjaaaSFnExactErrorState25
namespace Go.Proofs.Ytdoclpgciadjaaa.P
open Go.RowKit Go.Proofs.YtdoclpgciadjaaaW.PrintWords Go.Proofs.YtdoclpgciadjaaaW.PrintLast Go.Proofs.YtdoclpgciadjaaaW.PrintMore
set_option linter.unusedVariables false
set_option linter.unusedSimpArgs false
def laws_eqEvent.f (k : Nat) (a0_0 : Int) (a0_1 : Int) (a0_2 : Int) (a0_3 : Bool) (a0_4 : Int) (a0_5 : Bool) (a0_6 : Int) (l0_7 : List Int) (a1_0 : Int) (a1_1 : Int) (a1_2 : Int) (a1_3 : Bool) (a1_4 : Int) (a1_5 : Bool) (a1_6 : Int) (l1_7 : List Int) : Option (Bool) := if a0_0 = a1_0 then (if a0_1 = a1_1 then (if a0_2 = a1_2 then ((laws_eqFrame.f k a0_3 a0_4 a0_5 a0_6 l0_7 a1_3 a1_4 a1_5 a1_6 l1_7).bind fun t251 => (if t251 = true then (some true) else (some false))) else (some false)) else (some false)) else (some false)
theorem laws_eqEvent.mono : ∀ a0 a1 a2 a3 a4 a5 a6 a7 a8 a9 a10 a11 a12 a13 a14 a15 k, LeO (laws_eqEvent.f k a0 a1 a2 a3 a4 a5 a6 a7 a8 a9 a10 a11 a12 a13 a14 a15) (laws_eqEvent.f (k + 1) a0 a1 a2 a3 a4 a5 a6 a7 a8 a9 a10 a11 a12 a13 a14 a15) := by
  intro a0 a1 a2 a3 a4 a5 a6 a7 a8 a9 a10 a11 a12 a13 a14 a15 k
  unfold laws_eqEvent.f
  repeat' first
      | (with_reducible exact laws_eqFrame.mono _ _ _ _ _ _ _ _ _ _ _)
      | (with_reducible exact LeO.refl _)
      | (with_reducible exact LeO.none _)
      | (with_reducible refine LeO.ite ?_ ?_)
      | (with_reducible refine LeO.bind ?_ (fun _ => ?_))
      | exact laws_eqFrame.mono _ _ _ _ _ _ _ _ _ _ _
      | exact LeO.none _
      | refine LeO.ite ?_ ?_
      | refine LeO.bind ?_ (fun _ => ?_)
set_option maxHeartbeats 8000000 in
set_option maxRecDepth 100000 in
theorem laws_eqEvent.calls (k : Nat) (a0_0 : Int) (a0_1 : Int) (a0_2 : Int) (a0_3 : Bool) (a0_4 : Int) (a0_5 : Bool) (a0_6 : Int) (A0_7 : Option Addr) (c0_7 : Nat) (l0_7 : List Int) (a1_0 : Int) (a1_1 : Int) (a1_2 : Int) (a1_3 : Bool) (a1_4 : Int) (a1_5 : Bool) (a1_6 : Int) (A1_7 : Option Addr) (c1_7 : Nat) (l1_7 : List Int) (r : Bool) (w : World) (hr0_7 : Kd.C (Kd.int .u8) w A0_7 l0_7.length l0_7) (hc0_7 : l0_7.length ≤ c0_7) (hr1_7 : Kd.C (Kd.int .u8) w A1_7 l1_7.length l1_7) (hc1_7 : l1_7.length ≤ c1_7) (h : laws_eqEvent.f k a0_0 a0_1 a0_2 a0_3 a0_4 a0_5 a0_6 l0_7 a1_0 a1_1 a1_2 a1_3 a1_4 a1_5 a1_6 l1_7 = some r) :
    Calls Try.prog 154 #[.agg #[.int .i64 a0_0, .int .i64 a0_1, .int .i64 a0_2, .bool a0_3, .int .u32 a0_4, .bool a0_5, .int .i64 a0_6, .slice A0_7 l0_7.length c0_7], .agg #[.int .i64 a1_0, .int .i64 a1_1, .int .i64 a1_2, .bool a1_3, .int .u32 a1_4, .bool a1_5, .int .i64 a1_6, .slice A1_7 l1_7.length c1_7]] w fun e w' => e = .returned (.bool r) ∧ Below w.heap.size w w' := by
  have hu200 := Try.underlying200
  have hu25 := Try.underlying25
  have HR0_7 := Aside0.mk hr0_7
  have HC0_7 := Aside0.mk hc0_7
  clear hr0_7 hc0_7
  have HR1_7 := Aside0.mk hr1_7
  have HC1_7 := Aside0.mk hc1_7
  clear hr1_7 hc1_7
  have HB := Aside0.mk (Below.refl w.heap.size w)
  have H : (if a0_0 = a1_0 then (if a0_1 = a1_1 then (if a0_2 = a1_2 then ((laws_eqFrame.f k a0_3 a0_4 a0_5 a0_6 l0_7 a1_3 a1_4 a1_5 a1_6 l1_7).bind fun t251 => (if t251 = true then (some true) else (some false))) else (some false)) else (some false)) else (some false)) = some r := h
  clear h
  by_cases c3 : a0_0 = a1_0
  · rw [if_pos c3] at H
    have c3b0 : (a0_0 == a1_0) = true := beq_iff_eq.mpr c3
    have c3b1 : (a0_0 != a1_0) = false := bne_eq_false_iff_eq.mpr c3
    clear c3
    by_cases c4 : a0_1 = a1_1
    · rw [if_pos c4] at H
      have c4b0 : (a0_1 == a1_1) = true := beq_iff_eq.mpr c4
      have c4b1 : (a0_1 != a1_1) = false := bne_eq_false_iff_eq.mpr c4
      clear c4
      by_cases c5 : a0_2 = a1_2
      · rw [if_pos c5] at H
        have c5b0 : (a0_2 == a1_2) = true := beq_iff_eq.mpr c5
        have c5b1 : (a0_2 != a1_2) = false := bne_eq_false_iff_eq.mpr c5
        clear c5
        replace H := Option.bind_eq_some_iff.mp H
        obtain ⟨t251, A60, H⟩ := H
        replace H : (if t251 = true then (some true) else (some false)) = some r := H
        have A6 := Aside0.mk A60
        clear A60
        by_cases c7 : t251 = true
        · subst c7
          have H1 : (some true) = some r := by rw [if_pos rfl] at H; exact H
          clear H
          have H := H1
          clear H1
          obtain rfl := Option.some.inj H
          go_enter Try.func154, Try.ntmps154
          go_wp2_with (first | ((with_reducible refine gate_dst (N := 2) rfl ?_); refine box_event ?hg (N := 2) ?hd (cs := #[.int .i64 a0_0, .int .i64 a0_1, .int .i64 a0_2, .bool a0_3, .int .u32 a0_4, .bool a0_5, .int .i64 a0_6, .slice A0_7 l0_7.length c0_7]) (t := 200) ?hr ?_; (case hd => rfl); (case hg => rfl); (case hr => first | (go_simp; done) | (go_simp; rfl)); intro gb249 hg w8 hbox hb; have n0_ := Aside0.mk (below_step (by repeat (first | (with_reducible first | exact HB.out | apply below_alloc | apply pw_below_drewN | apply below_drew1) | exact HB.out)) hb); have n1_ := Aside0.mk (hbox); have n2_ := Aside0.mk ((by rw [hg]; exact (below_size (by repeat (first | (with_reducible first | exact HB.out | apply below_alloc | apply pw_below_drewN | apply below_drew1) | exact HB.out))) : w.heap.size ≤ gb249)); have n3_ := Aside0.mk ((by rw [hg]; exact (below_size (by repeat (first | (with_reducible first | exact HB.out | apply below_alloc | apply pw_below_drewN | apply below_drew1) | exact HB.out))) : w.heap.size ≤ gb249)); clear HB; have HB := n0_; have BK249 := n1_; have GW249 := n2_; have GE249 := n3_; clear n0_ n1_ n2_ n3_; clear hb hbox hg) | ((with_reducible refine gate_dst (N := 3) rfl ?_); refine box_event ?hg (N := 3) ?hd (cs := #[.int .i64 a1_0, .int .i64 a1_1, .int .i64 a1_2, .bool a1_3, .int .u32 a1_4, .bool a1_5, .int .i64 a1_6, .slice A1_7 l1_7.length c1_7]) (t := 200) ?hr ?_; (case hd => rfl); (case hg => rfl); (case hr => first | (go_simp; done) | (go_simp; rfl)); intro gb250 hg w9 hbox hb; have n0_ := Aside0.mk (blk_below (g := gb249) (o := .cells #[.int .i64 a0_0, .int .i64 a0_1, .int .i64 a0_2, .bool a0_3, .int .u32 a0_4, .bool a0_5, .int .i64 a0_6, .slice A0_7 l0_7.length c0_7] 200 (0, 0)) (by (with_reducible repeat (first | refine blk_drewN ?_ _ | refine blk_drew ?_ | refine blk_alloc ?_ _)); exact BK249.out) hb); have n1_ := Aside0.mk (below_step (by repeat (first | (with_reducible first | exact HB.out | apply below_alloc | apply pw_below_drewN | apply below_drew1 | refine below_set ?_ GE249.out) | exact HB.out)) hb); have n2_ := Aside0.mk (hbox); have n3_ := Aside0.mk ((by rw [hg]; exact (below_size (by repeat (first | (with_reducible first | exact HB.out | apply below_alloc | apply pw_below_drewN | apply below_drew1 | refine below_set ?_ GE249.out) | exact HB.out))) : w.heap.size ≤ gb250)); have n4_ := Aside0.mk ((by rw [hg]; exact (below_size (by repeat (first | (with_reducible first | exact HB.out | apply below_alloc | apply pw_below_drewN | apply below_drew1 | refine below_set ?_ GE249.out) | exact HB.out))) : w.heap.size ≤ gb250)); have n5_ := Aside0.mk ((by rw [hg]; exact Nat.ne_of_lt (blk_lt (g := gb249) (o := .cells #[.int .i64 a0_0, .int .i64 a0_1, .int .i64 a0_2, .bool a0_3, .int .u32 a0_4, .bool a0_5, .int .i64 a0_6, .slice A0_7 l0_7.length c0_7] 200 (0, 0)) (by (with_reducible repeat (first | refine blk_drewN ?_ _ | refine blk_drew ?_ | refine blk_alloc ?_ _)); exact BK249.out)) : gb249 ≠ gb250)); have n6_ := Aside0.mk ((by rw [hg]; exact Nat.ne_of_gt (blk_lt (g := gb249) (o := .cells #[.int .i64 a0_0, .int .i64 a0_1, .int .i64 a0_2, .bool a0_3, .int .u32 a0_4, .bool a0_5, .int .i64 a0_6, .slice A0_7 l0_7.length c0_7] 200 (0, 0)) (by (with_reducible repeat (first | refine blk_drewN ?_ _ | refine blk_drew ?_ | refine blk_alloc ?_ _)); exact BK249.out)) : gb250 ≠ gb249)); clear BK249; clear HB; have BK249 := n0_; have HB := n1_; have BK250 := n2_; have GW250 := n3_; have GE250 := n4_; have NB249_250 := n5_; have NB250_249 := n6_; clear n0_ n1_ n2_ n3_ n4_ n5_ n6_; clear hb hbox hg; have hnb10 := NB249_250.out; have hnc10 := NB250_249.out; have hcz11_0 : w9.cell? ⟨gb249, 0, none⟩ = some (.int .i64 a0_0) := (blk_cell BK249.out 0).trans rfl; have hcz11_1 : w9.cell? ⟨gb249, 1, none⟩ = some (.int .i64 a0_1) := (blk_cell BK249.out 1).trans rfl; have hcz11_2 : w9.cell? ⟨gb249, 2, none⟩ = some (.int .i64 a0_2) := (blk_cell BK249.out 2).trans rfl; have hcz11_3 : w9.cell? ⟨gb249, 3, none⟩ = some (.bool a0_3) := (blk_cell BK249.out 3).trans rfl; have hcz11_4 : w9.cell? ⟨gb249, 4, none⟩ = some (.int .u32 a0_4) := (blk_cell BK249.out 4).trans rfl; have hcz11_5 : w9.cell? ⟨gb249, 5, none⟩ = some (.bool a0_5) := (blk_cell BK249.out 5).trans rfl; have hcz11_6 : w9.cell? ⟨gb249, 6, none⟩ = some (.int .i64 a0_6) := (blk_cell BK249.out 6).trans rfl; have hcz11_7 : w9.cell? ⟨gb249, 7, none⟩ = some (.slice A0_7 l0_7.length c0_7) := (blk_cell BK249.out 7).trans rfl; have hfz11_0 := blk_frozen BK249.out 0; have hfz11_1 := blk_frozen BK249.out 1; have hfz11_2 := blk_frozen BK249.out 2; have hfz11_3 := blk_frozen BK249.out 3; have hfz11_4 := blk_frozen BK249.out 4; have hfz11_5 := blk_frozen BK249.out 5; have hfz11_6 := blk_frozen BK249.out 6; have hfz11_7 := blk_frozen BK249.out 7; have hcz12_0 : w9.cell? ⟨gb250, 0, none⟩ = some (.int .i64 a1_0) := (blk_cell BK250.out 0).trans rfl; have hcz12_1 : w9.cell? ⟨gb250, 1, none⟩ = some (.int .i64 a1_1) := (blk_cell BK250.out 1).trans rfl; have hcz12_2 : w9.cell? ⟨gb250, 2, none⟩ = some (.int .i64 a1_2) := (blk_cell BK250.out 2).trans rfl; have hcz12_3 : w9.cell? ⟨gb250, 3, none⟩ = some (.bool a1_3) := (blk_cell BK250.out 3).trans rfl; have hcz12_4 : w9.cell? ⟨gb250, 4, none⟩ = some (.int .u32 a1_4) := (blk_cell BK250.out 4).trans rfl; have hcz12_5 : w9.cell? ⟨gb250, 5, none⟩ = some (.bool a1_5) := (blk_cell BK250.out 5).trans rfl; have hcz12_6 : w9.cell? ⟨gb250, 6, none⟩ = some (.int .i64 a1_6) := (blk_cell BK250.out 6).trans rfl; have hcz12_7 : w9.cell? ⟨gb250, 7, none⟩ = some (.slice A1_7 l1_7.length c1_7) := (blk_cell BK250.out 7).trans rfl; have hfz12_0 := blk_frozen BK250.out 0; have hfz12_1 := blk_frozen BK250.out 1; have hfz12_2 := blk_frozen BK250.out 2; have hfz12_3 := blk_frozen BK250.out 3; have hfz12_4 := blk_frozen BK250.out 4; have hfz12_5 := blk_frozen BK250.out 5; have hfz12_6 := blk_frozen BK250.out 6; have hfz12_7 := blk_frozen BK250.out 7) | ((with_reducible refine gate_callee (f := 36) rfl ?_); refine goesL_ (some 24) rfl rfl Try.func36 (by kernel_rfl) rfl #[.agg #[.bool a0_3, .int .u32 a0_4, .bool a0_5, .int .i64 a0_6, .slice A0_7 l0_7.length c0_7], .agg #[.bool a1_3, .int .u32 a1_4, .bool a1_5, .int .i64 a1_6, .slice A1_7 l1_7.length c1_7]] rfl (by (try simp only [List.map_toArray, List.map_cons, List.map_nil]); first | done | rfl | (simp only [List.length_drop, List.length_take]; rfl)) ?_; (with_reducible refine (laws_eqFrame.calls k a0_3 a0_4 a0_5 a0_6 _ _ l0_7 a1_3 a1_4 a1_5 a1_6 _ _ l1_7 true _ ?side1 ?side2 ?side3 ?side4 A6.out).mono ?_); (case side1 => repeat (first | exact (Kd.C_below HR0_7.out HB.out) | (with_reducible refine Kd.C_alloc ?_ _) | (with_reducible refine Kd.C_drewN ?_ _) | (with_reducible refine Kd.C_drew ?_))); (case side2 => exact HC0_7.out); (case side3 => repeat (first | exact (Kd.C_below HR1_7.out HB.out) | (with_reducible refine Kd.C_alloc ?_ _) | (with_reducible refine Kd.C_drewN ?_ _) | (with_reducible refine Kd.C_drew ?_))); (case side4 => exact HC1_7.out); rintro e w13 ⟨rfl, hb⟩; refine ⟨_, rfl, ?_⟩; have n0_ := Aside0.mk (blk_below (g := gb249) (o := .cells #[.int .i64 a0_0, .int .i64 a0_1, .int .i64 a0_2, .bool a0_3, .int .u32 a0_4, .bool a0_5, .int .i64 a0_6, .slice A0_7 l0_7.length c0_7] 200 (0, 0)) (by (with_reducible repeat (first | refine blk_drewN ?_ _ | refine blk_drew ?_ | refine blk_alloc ?_ _)); exact BK249.out) hb); have n1_ := Aside0.mk (blk_below (g := gb250) (o := .cells #[.int .i64 a1_0, .int .i64 a1_1, .int .i64 a1_2, .bool a1_3, .int .u32 a1_4, .bool a1_5, .int .i64 a1_6, .slice A1_7 l1_7.length c1_7] 200 (0, 0)) (by (with_reducible repeat (first | refine blk_drewN ?_ _ | refine blk_drew ?_ | refine blk_alloc ?_ _)); exact BK250.out) hb); have n2_ := Aside0.mk (below_step (by repeat (first | (with_reducible first | exact HB.out | apply below_alloc | apply pw_below_drewN | apply below_drew1 | refine below_set ?_ GE249.out | refine below_set ?_ GE250.out) | exact HB.out)) hb); clear BK249; clear BK250; clear HB; have BK249 := n0_; have BK250 := n1_; have HB := n2_; clear n0_ n1_ n2_; (try clear hb); (try clear hb2); (try clear hk); (try clear hi)))
          go_ret
          exact ⟨by first | rfl | (simp [errW_none, errW_some] <;> rfl) | (simp [*, errW_none, errW_some] <;> rfl), by repeat (first | (with_reducible first | exact HB.out | apply below_alloc | apply pw_below_drewN | apply below_drew1 | refine below_set ?_ GE249.out | refine below_set ?_ GE250.out) | exact HB.out)⟩
        · replace c7 := Bool.eq_false_iff.mpr c7
          subst c7
          have H1 : (some false) = some r := by rw [if_neg (show ¬ (false = true) by decide)] at H; exact H
          clear H
          have H := H1
          clear H1
          obtain rfl := Option.some.inj H
          go_enter Try.func154, Try.ntmps154
          go_wp2_with (first | ((with_reducible refine gate_dst (N := 2) rfl ?_); refine box_event ?hg (N := 2) ?hd (cs := #[.int .i64 a0_0, .int .i64 a0_1, .int .i64 a0_2, .bool a0_3, .int .u32 a0_4, .bool a0_5, .int .i64 a0_6, .slice A0_7 l0_7.length c0_7]) (t := 200) ?hr ?_; (case hd => rfl); (case hg => rfl); (case hr => first | (go_simp; done) | (go_simp; rfl)); intro gb249 hg w14 hbox hb; have n0_ := Aside0.mk (below_step (by repeat (first | (with_reducible first | exact HB.out | apply below_alloc | apply pw_below_drewN | apply below_drew1) | exact HB.out)) hb); have n1_ := Aside0.mk (hbox); have n2_ := Aside0.mk ((by rw [hg]; exact (below_size (by repeat (first | (with_reducible first | exact HB.out | apply below_alloc | apply pw_below_drewN | apply below_drew1) | exact HB.out))) : w.heap.size ≤ gb249)); have n3_ := Aside0.mk ((by rw [hg]; exact (below_size (by repeat (first | (with_reducible first | exact HB.out | apply below_alloc | apply pw_below_drewN | apply below_drew1) | exact HB.out))) : w.heap.size ≤ gb249)); clear HB; have HB := n0_; have BK249 := n1_; have GW249 := n2_; have GE249 := n3_; clear n0_ n1_ n2_ n3_; clear hb hbox hg) | ((with_reducible refine gate_dst (N := 3) rfl ?_); refine box_event ?hg (N := 3) ?hd (cs := #[.int .i64 a1_0, .int .i64 a1_1, .int .i64 a1_2, .bool a1_3, .int .u32 a1_4, .bool a1_5, .int .i64 a1_6, .slice A1_7 l1_7.length c1_7]) (t := 200) ?hr ?_; (case hd => rfl); (case hg => rfl); (case hr => first | (go_simp; done) | (go_simp; rfl)); intro gb250 hg w15 hbox hb; have n0_ := Aside0.mk (blk_below (g := gb249) (o := .cells #[.int .i64 a0_0, .int .i64 a0_1, .int .i64 a0_2, .bool a0_3, .int .u32 a0_4, .bool a0_5, .int .i64 a0_6, .slice A0_7 l0_7.length c0_7] 200 (0, 0)) (by (with_reducible repeat (first | refine blk_drewN ?_ _ | refine blk_drew ?_ | refine blk_alloc ?_ _)); exact BK249.out) hb); have n1_ := Aside0.mk (below_step (by repeat (first | (with_reducible first | exact HB.out | apply below_alloc | apply pw_below_drewN | apply below_drew1 | refine below_set ?_ GE249.out) | exact HB.out)) hb); have n2_ := Aside0.mk (hbox); have n3_ := Aside0.mk ((by rw [hg]; exact (below_size (by repeat (first | (with_reducible first | exact HB.out | apply below_alloc | apply pw_below_drewN | apply below_drew1 | refine below_set ?_ GE249.out) | exact HB.out))) : w.heap.size ≤ gb250)); have n4_ := Aside0.mk ((by rw [hg]; exact (below_size (by repeat (first | (with_reducible first | exact HB.out | apply below_alloc | apply pw_below_drewN | apply below_drew1 | refine below_set ?_ GE249.out) | exact HB.out))) : w.heap.size ≤ gb250)); have n5_ := Aside0.mk ((by rw [hg]; exact Nat.ne_of_lt (blk_lt (g := gb249) (o := .cells #[.int .i64 a0_0, .int .i64 a0_1, .int .i64 a0_2, .bool a0_3, .int .u32 a0_4, .bool a0_5, .int .i64 a0_6, .slice A0_7 l0_7.length c0_7] 200 (0, 0)) (by (with_reducible repeat (first | refine blk_drewN ?_ _ | refine blk_drew ?_ | refine blk_alloc ?_ _)); exact BK249.out)) : gb249 ≠ gb250)); have n6_ := Aside0.mk ((by rw [hg]; exact Nat.ne_of_gt (blk_lt (g := gb249) (o := .cells #[.int .i64 a0_0, .int .i64 a0_1, .int .i64 a0_2, .bool a0_3, .int .u32 a0_4, .bool a0_5, .int .i64 a0_6, .slice A0_7 l0_7.length c0_7] 200 (0, 0)) (by (with_reducible repeat (first | refine blk_drewN ?_ _ | refine blk_drew ?_ | refine blk_alloc ?_ _)); exact BK249.out)) : gb250 ≠ gb249)); clear BK249; clear HB; have BK249 := n0_; have HB := n1_; have BK250 := n2_; have GW250 := n3_; have GE250 := n4_; have NB249_250 := n5_; have NB250_249 := n6_; clear n0_ n1_ n2_ n3_ n4_ n5_ n6_; clear hb hbox hg; have hnb16 := NB249_250.out; have hnc16 := NB250_249.out; have hcz17_0 : w15.cell? ⟨gb249, 0, none⟩ = some (.int .i64 a0_0) := (blk_cell BK249.out 0).trans rfl; have hcz17_1 : w15.cell? ⟨gb249, 1, none⟩ = some (.int .i64 a0_1) := (blk_cell BK249.out 1).trans rfl; have hcz17_2 : w15.cell? ⟨gb249, 2, none⟩ = some (.int .i64 a0_2) := (blk_cell BK249.out 2).trans rfl; have hcz17_3 : w15.cell? ⟨gb249, 3, none⟩ = some (.bool a0_3) := (blk_cell BK249.out 3).trans rfl; have hcz17_4 : w15.cell? ⟨gb249, 4, none⟩ = some (.int .u32 a0_4) := (blk_cell BK249.out 4).trans rfl; have hcz17_5 : w15.cell? ⟨gb249, 5, none⟩ = some (.bool a0_5) := (blk_cell BK249.out 5).trans rfl; have hcz17_6 : w15.cell? ⟨gb249, 6, none⟩ = some (.int .i64 a0_6) := (blk_cell BK249.out 6).trans rfl; have hcz17_7 : w15.cell? ⟨gb249, 7, none⟩ = some (.slice A0_7 l0_7.length c0_7) := (blk_cell BK249.out 7).trans rfl; have hfz17_0 := blk_frozen BK249.out 0; have hfz17_1 := blk_frozen BK249.out 1; have hfz17_2 := blk_frozen BK249.out 2; have hfz17_3 := blk_frozen BK249.out 3; have hfz17_4 := blk_frozen BK249.out 4; have hfz17_5 := blk_frozen BK249.out 5; have hfz17_6 := blk_frozen BK249.out 6; have hfz17_7 := blk_frozen BK249.out 7; have hcz18_0 : w15.cell? ⟨gb250, 0, none⟩ = some (.int .i64 a1_0) := (blk_cell BK250.out 0).trans rfl; have hcz18_1 : w15.cell? ⟨gb250, 1, none⟩ = some (.int .i64 a1_1) := (blk_cell BK250.out 1).trans rfl; have hcz18_2 : w15.cell? ⟨gb250, 2, none⟩ = some (.int .i64 a1_2) := (blk_cell BK250.out 2).trans rfl; have hcz18_3 : w15.cell? ⟨gb250, 3, none⟩ = some (.bool a1_3) := (blk_cell BK250.out 3).trans rfl; have hcz18_4 : w15.cell? ⟨gb250, 4, none⟩ = some (.int .u32 a1_4) := (blk_cell BK250.out 4).trans rfl; have hcz18_5 : w15.cell? ⟨gb250, 5, none⟩ = some (.bool a1_5) := (blk_cell BK250.out 5).trans rfl; have hcz18_6 : w15.cell? ⟨gb250, 6, none⟩ = some (.int .i64 a1_6) := (blk_cell BK250.out 6).trans rfl; have hcz18_7 : w15.cell? ⟨gb250, 7, none⟩ = some (.slice A1_7 l1_7.length c1_7) := (blk_cell BK250.out 7).trans rfl; have hfz18_0 := blk_frozen BK250.out 0; have hfz18_1 := blk_frozen BK250.out 1; have hfz18_2 := blk_frozen BK250.out 2; have hfz18_3 := blk_frozen BK250.out 3; have hfz18_4 := blk_frozen BK250.out 4; have hfz18_5 := blk_frozen BK250.out 5; have hfz18_6 := blk_frozen BK250.out 6; have hfz18_7 := blk_frozen BK250.out 7) | ((with_reducible refine gate_callee (f := 36) rfl ?_); refine goesL_ (some 24) rfl rfl Try.func36 (by kernel_rfl) rfl #[.agg #[.bool a0_3, .int .u32 a0_4, .bool a0_5, .int .i64 a0_6, .slice A0_7 l0_7.length c0_7], .agg #[.bool a1_3, .int .u32 a1_4, .bool a1_5, .int .i64 a1_6, .slice A1_7 l1_7.length c1_7]] rfl (by (try simp only [List.map_toArray, List.map_cons, List.map_nil]); first | done | rfl | (simp only [List.length_drop, List.length_take]; rfl)) ?_; (with_reducible refine (laws_eqFrame.calls k a0_3 a0_4 a0_5 a0_6 _ _ l0_7 a1_3 a1_4 a1_5 a1_6 _ _ l1_7 false _ ?side1 ?side2 ?side3 ?side4 A6.out).mono ?_); (case side1 => repeat (first | exact (Kd.C_below HR0_7.out HB.out) | (with_reducible refine Kd.C_alloc ?_ _) | (with_reducible refine Kd.C_drewN ?_ _) | (with_reducible refine Kd.C_drew ?_))); (case side2 => exact HC0_7.out); (case side3 => repeat (first | exact (Kd.C_below HR1_7.out HB.out) | (with_reducible refine Kd.C_alloc ?_ _) | (with_reducible refine Kd.C_drewN ?_ _) | (with_reducible refine Kd.C_drew ?_))); (case side4 => exact HC1_7.out); rintro e w19 ⟨rfl, hb⟩; refine ⟨_, rfl, ?_⟩; have n0_ := Aside0.mk (blk_below (g := gb249) (o := .cells #[.int .i64 a0_0, .int .i64 a0_1, .int .i64 a0_2, .bool a0_3, .int .u32 a0_4, .bool a0_5, .int .i64 a0_6, .slice A0_7 l0_7.length c0_7] 200 (0, 0)) (by (with_reducible repeat (first | refine blk_drewN ?_ _ | refine blk_drew ?_ | refine blk_alloc ?_ _)); exact BK249.out) hb); have n1_ := Aside0.mk (blk_below (g := gb250) (o := .cells #[.int .i64 a1_0, .int .i64 a1_1, .int .i64 a1_2, .bool a1_3, .int .u32 a1_4, .bool a1_5, .int .i64 a1_6, .slice A1_7 l1_7.length c1_7] 200 (0, 0)) (by (with_reducible repeat (first | refine blk_drewN ?_ _ | refine blk_drew ?_ | refine blk_alloc ?_ _)); exact BK250.out) hb); have n2_ := Aside0.mk (below_step (by repeat (first | (with_reducible first | exact HB.out | apply below_alloc | apply pw_below_drewN | apply below_drew1 | refine below_set ?_ GE249.out | refine below_set ?_ GE250.out) | exact HB.out)) hb); clear BK249; clear BK250; clear HB; have BK249 := n0_; have BK250 := n1_; have HB := n2_; clear n0_ n1_ n2_; (try clear hb); (try clear hb2); (try clear hk); (try clear hi)))
          go_ret
          exact ⟨by first | rfl | (simp [errW_none, errW_some] <;> rfl) | (simp [*, errW_none, errW_some] <;> rfl), by repeat (first | (with_reducible first | exact HB.out | apply below_alloc | apply pw_below_drewN | apply below_drew1 | refine below_set ?_ GE249.out | refine below_set ?_ GE250.out) | exact HB.out)⟩
      · rw [if_neg c5] at H
        have c5b0 : (a0_2 == a1_2) = false := beq_eq_false_iff_ne.mpr c5
        have c5b1 : (a0_2 != a1_2) = true := bne_iff_ne.mpr c5
        obtain rfl := Option.some.inj H
        go_enter Try.func154, Try.ntmps154
        go_wp2_with (first | ((with_reducible refine gate_dst (N := 2) rfl ?_); refine box_event ?hg (N := 2) ?hd (cs := #[.int .i64 a0_0, .int .i64 a0_1, .int .i64 a0_2, .bool a0_3, .int .u32 a0_4, .bool a0_5, .int .i64 a0_6, .slice A0_7 l0_7.length c0_7]) (t := 200) ?hr ?_; (case hd => rfl); (case hg => rfl); (case hr => first | (go_simp; done) | (go_simp; rfl)); intro gb249 hg w20 hbox hb; have n0_ := Aside0.mk (below_step (by repeat (first | (with_reducible first | exact HB.out | apply below_alloc | apply pw_below_drewN | apply below_drew1) | exact HB.out)) hb); have n1_ := Aside0.mk (hbox); have n2_ := Aside0.mk ((by rw [hg]; exact (below_size (by repeat (first | (with_reducible first | exact HB.out | apply below_alloc | apply pw_below_drewN | apply below_drew1) | exact HB.out))) : w.heap.size ≤ gb249)); have n3_ := Aside0.mk ((by rw [hg]; exact (below_size (by repeat (first | (with_reducible first | exact HB.out | apply below_alloc | apply pw_below_drewN | apply below_drew1) | exact HB.out))) : w.heap.size ≤ gb249)); clear HB; have HB := n0_; have BK249 := n1_; have GW249 := n2_; have GE249 := n3_; clear n0_ n1_ n2_ n3_; clear hb hbox hg) | ((with_reducible refine gate_dst (N := 3) rfl ?_); refine box_event ?hg (N := 3) ?hd (cs := #[.int .i64 a1_0, .int .i64 a1_1, .int .i64 a1_2, .bool a1_3, .int .u32 a1_4, .bool a1_5, .int .i64 a1_6, .slice A1_7 l1_7.length c1_7]) (t := 200) ?hr ?_; (case hd => rfl); (case hg => rfl); (case hr => first | (go_simp; done) | (go_simp; rfl)); intro gb250 hg w21 hbox hb; have n0_ := Aside0.mk (blk_below (g := gb249) (o := .cells #[.int .i64 a0_0, .int .i64 a0_1, .int .i64 a0_2, .bool a0_3, .int .u32 a0_4, .bool a0_5, .int .i64 a0_6, .slice A0_7 l0_7.length c0_7] 200 (0, 0)) (by (with_reducible repeat (first | refine blk_drewN ?_ _ | refine blk_drew ?_ | refine blk_alloc ?_ _)); exact BK249.out) hb); have n1_ := Aside0.mk (below_step (by repeat (first | (with_reducible first | exact HB.out | apply below_alloc | apply pw_below_drewN | apply below_drew1 | refine below_set ?_ GE249.out) | exact HB.out)) hb); have n2_ := Aside0.mk (hbox); have n3_ := Aside0.mk ((by rw [hg]; exact (below_size (by repeat (first | (with_reducible first | exact HB.out | apply below_alloc | apply pw_below_drewN | apply below_drew1 | refine below_set ?_ GE249.out) | exact HB.out))) : w.heap.size ≤ gb250)); have n4_ := Aside0.mk ((by rw [hg]; exact (below_size (by repeat (first | (with_reducible first | exact HB.out | apply below_alloc | apply pw_below_drewN | apply below_drew1 | refine below_set ?_ GE249.out) | exact HB.out))) : w.heap.size ≤ gb250)); have n5_ := Aside0.mk ((by rw [hg]; exact Nat.ne_of_lt (blk_lt (g := gb249) (o := .cells #[.int .i64 a0_0, .int .i64 a0_1, .int .i64 a0_2, .bool a0_3, .int .u32 a0_4, .bool a0_5, .int .i64 a0_6, .slice A0_7 l0_7.length c0_7] 200 (0, 0)) (by (with_reducible repeat (first | refine blk_drewN ?_ _ | refine blk_drew ?_ | refine blk_alloc ?_ _)); exact BK249.out)) : gb249 ≠ gb250)); have n6_ := Aside0.mk ((by rw [hg]; exact Nat.ne_of_gt (blk_lt (g := gb249) (o := .cells #[.int .i64 a0_0, .int .i64 a0_1, .int .i64 a0_2, .bool a0_3, .int .u32 a0_4, .bool a0_5, .int .i64 a0_6, .slice A0_7 l0_7.length c0_7] 200 (0, 0)) (by (with_reducible repeat (first | refine blk_drewN ?_ _ | refine blk_drew ?_ | refine blk_alloc ?_ _)); exact BK249.out)) : gb250 ≠ gb249)); clear BK249; clear HB; have BK249 := n0_; have HB := n1_; have BK250 := n2_; have GW250 := n3_; have GE250 := n4_; have NB249_250 := n5_; have NB250_249 := n6_; clear n0_ n1_ n2_ n3_ n4_ n5_ n6_; clear hb hbox hg; have hnb22 := NB249_250.out; have hnc22 := NB250_249.out; have hcz23_0 : w21.cell? ⟨gb249, 0, none⟩ = some (.int .i64 a0_0) := (blk_cell BK249.out 0).trans rfl; have hcz23_1 : w21.cell? ⟨gb249, 1, none⟩ = some (.int .i64 a0_1) := (blk_cell BK249.out 1).trans rfl; have hcz23_2 : w21.cell? ⟨gb249, 2, none⟩ = some (.int .i64 a0_2) := (blk_cell BK249.out 2).trans rfl; have hcz23_3 : w21.cell? ⟨gb249, 3, none⟩ = some (.bool a0_3) := (blk_cell BK249.out 3).trans rfl; have hcz23_4 : w21.cell? ⟨gb249, 4, none⟩ = some (.int .u32 a0_4) := (blk_cell BK249.out 4).trans rfl; have hcz23_5 : w21.cell? ⟨gb249, 5, none⟩ = some (.bool a0_5) := (blk_cell BK249.out 5).trans rfl; have hcz23_6 : w21.cell? ⟨gb249, 6, none⟩ = some (.int .i64 a0_6) := (blk_cell BK249.out 6).trans rfl; have hcz23_7 : w21.cell? ⟨gb249, 7, none⟩ = some (.slice A0_7 l0_7.length c0_7) := (blk_cell BK249.out 7).trans rfl; have hfz23_0 := blk_frozen BK249.out 0; have hfz23_1 := blk_frozen BK249.out 1; have hfz23_2 := blk_frozen BK249.out 2; have hfz23_3 := blk_frozen BK249.out 3; have hfz23_4 := blk_frozen BK249.out 4; have hfz23_5 := blk_frozen BK249.out 5; have hfz23_6 := blk_frozen BK249.out 6; have hfz23_7 := blk_frozen BK249.out 7; have hcz24_0 : w21.cell? ⟨gb250, 0, none⟩ = some (.int .i64 a1_0) := (blk_cell BK250.out 0).trans rfl; have hcz24_1 : w21.cell? ⟨gb250, 1, none⟩ = some (.int .i64 a1_1) := (blk_cell BK250.out 1).trans rfl; have hcz24_2 : w21.cell? ⟨gb250, 2, none⟩ = some (.int .i64 a1_2) := (blk_cell BK250.out 2).trans rfl; have hcz24_3 : w21.cell? ⟨gb250, 3, none⟩ = some (.bool a1_3) := (blk_cell BK250.out 3).trans rfl; have hcz24_4 : w21.cell? ⟨gb250, 4, none⟩ = some (.int .u32 a1_4) := (blk_cell BK250.out 4).trans rfl; have hcz24_5 : w21.cell? ⟨gb250, 5, none⟩ = some (.bool a1_5) := (blk_cell BK250.out 5).trans rfl; have hcz24_6 : w21.cell? ⟨gb250, 6, none⟩ = some (.int .i64 a1_6) := (blk_cell BK250.out 6).trans rfl; have hcz24_7 : w21.cell? ⟨gb250, 7, none⟩ = some (.slice A1_7 l1_7.length c1_7) := (blk_cell BK250.out 7).trans rfl; have hfz24_0 := blk_frozen BK250.out 0; have hfz24_1 := blk_frozen BK250.out 1; have hfz24_2 := blk_frozen BK250.out 2; have hfz24_3 := blk_frozen BK250.out 3; have hfz24_4 := blk_frozen BK250.out 4; have hfz24_5 := blk_frozen BK250.out 5; have hfz24_6 := blk_frozen BK250.out 6; have hfz24_7 := blk_frozen BK250.out 7))
        go_ret
        exact ⟨by first | rfl | (simp [errW_none, errW_some] <;> rfl) | (simp [*, errW_none, errW_some] <;> rfl), by repeat (first | (with_reducible first | exact HB.out | apply below_alloc | apply pw_below_drewN | apply below_drew1 | refine below_set ?_ GE249.out | refine below_set ?_ GE250.out) | exact HB.out)⟩
    · rw [if_neg c4] at H
      have c4b0 : (a0_1 == a1_1) = false := beq_eq_false_iff_ne.mpr c4
      have c4b1 : (a0_1 != a1_1) = true := bne_iff_ne.mpr c4
      obtain rfl := Option.some.inj H
      go_enter Try.func154, Try.ntmps154
      go_wp2_with (first | ((with_reducible refine gate_dst (N := 2) rfl ?_); refine box_event ?hg (N := 2) ?hd (cs := #[.int .i64 a0_0, .int .i64 a0_1, .int .i64 a0_2, .bool a0_3, .int .u32 a0_4, .bool a0_5, .int .i64 a0_6, .slice A0_7 l0_7.length c0_7]) (t := 200) ?hr ?_; (case hd => rfl); (case hg => rfl); (case hr => first | (go_simp; done) | (go_simp; rfl)); intro gb249 hg w25 hbox hb; have n0_ := Aside0.mk (below_step (by repeat (first | (with_reducible first | exact HB.out | apply below_alloc | apply pw_below_drewN | apply below_drew1) | exact HB.out)) hb); have n1_ := Aside0.mk (hbox); have n2_ := Aside0.mk ((by rw [hg]; exact (below_size (by repeat (first | (with_reducible first | exact HB.out | apply below_alloc | apply pw_below_drewN | apply below_drew1) | exact HB.out))) : w.heap.size ≤ gb249)); have n3_ := Aside0.mk ((by rw [hg]; exact (below_size (by repeat (first | (with_reducible first | exact HB.out | apply below_alloc | apply pw_below_drewN | apply below_drew1) | exact HB.out))) : w.heap.size ≤ gb249)); clear HB; have HB := n0_; have BK249 := n1_; have GW249 := n2_; have GE249 := n3_; clear n0_ n1_ n2_ n3_; clear hb hbox hg) | ((with_reducible refine gate_dst (N := 3) rfl ?_); refine box_event ?hg (N := 3) ?hd (cs := #[.int .i64 a1_0, .int .i64 a1_1, .int .i64 a1_2, .bool a1_3, .int .u32 a1_4, .bool a1_5, .int .i64 a1_6, .slice A1_7 l1_7.length c1_7]) (t := 200) ?hr ?_; (case hd => rfl); (case hg => rfl); (case hr => first | (go_simp; done) | (go_simp; rfl)); intro gb250 hg w26 hbox hb; have n0_ := Aside0.mk (blk_below (g := gb249) (o := .cells #[.int .i64 a0_0, .int .i64 a0_1, .int .i64 a0_2, .bool a0_3, .int .u32 a0_4, .bool a0_5, .int .i64 a0_6, .slice A0_7 l0_7.length c0_7] 200 (0, 0)) (by (with_reducible repeat (first | refine blk_drewN ?_ _ | refine blk_drew ?_ | refine blk_alloc ?_ _)); exact BK249.out) hb); have n1_ := Aside0.mk (below_step (by repeat (first | (with_reducible first | exact HB.out | apply below_alloc | apply pw_below_drewN | apply below_drew1 | refine below_set ?_ GE249.out) | exact HB.out)) hb); have n2_ := Aside0.mk (hbox); have n3_ := Aside0.mk ((by rw [hg]; exact (below_size (by repeat (first | (with_reducible first | exact HB.out | apply below_alloc | apply pw_below_drewN | apply below_drew1 | refine below_set ?_ GE249.out) | exact HB.out))) : w.heap.size ≤ gb250)); have n4_ := Aside0.mk ((by rw [hg]; exact (below_size (by repeat (first | (with_reducible first | exact HB.out | apply below_alloc | apply pw_below_drewN | apply below_drew1 | refine below_set ?_ GE249.out) | exact HB.out))) : w.heap.size ≤ gb250)); have n5_ := Aside0.mk ((by rw [hg]; exact Nat.ne_of_lt (blk_lt (g := gb249) (o := .cells #[.int .i64 a0_0, .int .i64 a0_1, .int .i64 a0_2, .bool a0_3, .int .u32 a0_4, .bool a0_5, .int .i64 a0_6, .slice A0_7 l0_7.length c0_7] 200 (0, 0)) (by (with_reducible repeat (first | refine blk_drewN ?_ _ | refine blk_drew ?_ | refine blk_alloc ?_ _)); exact BK249.out)) : gb249 ≠ gb250)); have n6_ := Aside0.mk ((by rw [hg]; exact Nat.ne_of_gt (blk_lt (g := gb249) (o := .cells #[.int .i64 a0_0, .int .i64 a0_1, .int .i64 a0_2, .bool a0_3, .int .u32 a0_4, .bool a0_5, .int .i64 a0_6, .slice A0_7 l0_7.length c0_7] 200 (0, 0)) (by (with_reducible repeat (first | refine blk_drewN ?_ _ | refine blk_drew ?_ | refine blk_alloc ?_ _)); exact BK249.out)) : gb250 ≠ gb249)); clear BK249; clear HB; have BK249 := n0_; have HB := n1_; have BK250 := n2_; have GW250 := n3_; have GE250 := n4_; have NB249_250 := n5_; have NB250_249 := n6_; clear n0_ n1_ n2_ n3_ n4_ n5_ n6_; clear hb hbox hg; have hnb27 := NB249_250.out; have hnc27 := NB250_249.out; have hcz28_0 : w26.cell? ⟨gb249, 0, none⟩ = some (.int .i64 a0_0) := (blk_cell BK249.out 0).trans rfl; have hcz28_1 : w26.cell? ⟨gb249, 1, none⟩ = some (.int .i64 a0_1) := (blk_cell BK249.out 1).trans rfl; have hcz28_2 : w26.cell? ⟨gb249, 2, none⟩ = some (.int .i64 a0_2) := (blk_cell BK249.out 2).trans rfl; have hcz28_3 : w26.cell? ⟨gb249, 3, none⟩ = some (.bool a0_3) := (blk_cell BK249.out 3).trans rfl; have hcz28_4 : w26.cell? ⟨gb249, 4, none⟩ = some (.int .u32 a0_4) := (blk_cell BK249.out 4).trans rfl; have hcz28_5 : w26.cell? ⟨gb249, 5, none⟩ = some (.bool a0_5) := (blk_cell BK249.out 5).trans rfl; have hcz28_6 : w26.cell? ⟨gb249, 6, none⟩ = some (.int .i64 a0_6) := (blk_cell BK249.out 6).trans rfl; have hcz28_7 : w26.cell? ⟨gb249, 7, none⟩ = some (.slice A0_7 l0_7.length c0_7) := (blk_cell BK249.out 7).trans rfl; have hfz28_0 := blk_frozen BK249.out 0; have hfz28_1 := blk_frozen BK249.out 1; have hfz28_2 := blk_frozen BK249.out 2; have hfz28_3 := blk_frozen BK249.out 3; have hfz28_4 := blk_frozen BK249.out 4; have hfz28_5 := blk_frozen BK249.out 5; have hfz28_6 := blk_frozen BK249.out 6; have hfz28_7 := blk_frozen BK249.out 7; have hcz29_0 : w26.cell? ⟨gb250, 0, none⟩ = some (.int .i64 a1_0) := (blk_cell BK250.out 0).trans rfl; have hcz29_1 : w26.cell? ⟨gb250, 1, none⟩ = some (.int .i64 a1_1) := (blk_cell BK250.out 1).trans rfl; have hcz29_2 : w26.cell? ⟨gb250, 2, none⟩ = some (.int .i64 a1_2) := (blk_cell BK250.out 2).trans rfl; have hcz29_3 : w26.cell? ⟨gb250, 3, none⟩ = some (.bool a1_3) := (blk_cell BK250.out 3).trans rfl; have hcz29_4 : w26.cell? ⟨gb250, 4, none⟩ = some (.int .u32 a1_4) := (blk_cell BK250.out 4).trans rfl; have hcz29_5 : w26.cell? ⟨gb250, 5, none⟩ = some (.bool a1_5) := (blk_cell BK250.out 5).trans rfl; have hcz29_6 : w26.cell? ⟨gb250, 6, none⟩ = some (.int .i64 a1_6) := (blk_cell BK250.out 6).trans rfl; have hcz29_7 : w26.cell? ⟨gb250, 7, none⟩ = some (.slice A1_7 l1_7.length c1_7) := (blk_cell BK250.out 7).trans rfl; have hfz29_0 := blk_frozen BK250.out 0; have hfz29_1 := blk_frozen BK250.out 1; have hfz29_2 := blk_frozen BK250.out 2; have hfz29_3 := blk_frozen BK250.out 3; have hfz29_4 := blk_frozen BK250.out 4; have hfz29_5 := blk_frozen BK250.out 5; have hfz29_6 := blk_frozen BK250.out 6; have hfz29_7 := blk_frozen BK250.out 7))
      go_ret
      exact ⟨by first | rfl | (simp [errW_none, errW_some] <;> rfl) | (simp [*, errW_none, errW_some] <;> rfl), by repeat (first | (with_reducible first | exact HB.out | apply below_alloc | apply pw_below_drewN | apply below_drew1 | refine below_set ?_ GE249.out | refine below_set ?_ GE250.out) | exact HB.out)⟩
  · rw [if_neg c3] at H
    have c3b0 : (a0_0 == a1_0) = false := beq_eq_false_iff_ne.mpr c3
    have c3b1 : (a0_0 != a1_0) = true := bne_iff_ne.mpr c3
    obtain rfl := Option.some.inj H
    go_enter Try.func154, Try.ntmps154
    go_wp2_with (first | ((with_reducible refine gate_dst (N := 2) rfl ?_); refine box_event ?hg (N := 2) ?hd (cs := #[.int .i64 a0_0, .int .i64 a0_1, .int .i64 a0_2, .bool a0_3, .int .u32 a0_4, .bool a0_5, .int .i64 a0_6, .slice A0_7 l0_7.length c0_7]) (t := 200) ?hr ?_; (case hd => rfl); (case hg => rfl); (case hr => first | (go_simp; done) | (go_simp; rfl)); intro gb249 hg w30 hbox hb; have n0_ := Aside0.mk (below_step (by repeat (first | (with_reducible first | exact HB.out | apply below_alloc | apply pw_below_drewN | apply below_drew1) | exact HB.out)) hb); have n1_ := Aside0.mk (hbox); have n2_ := Aside0.mk ((by rw [hg]; exact (below_size (by repeat (first | (with_reducible first | exact HB.out | apply below_alloc | apply pw_below_drewN | apply below_drew1) | exact HB.out))) : w.heap.size ≤ gb249)); have n3_ := Aside0.mk ((by rw [hg]; exact (below_size (by repeat (first | (with_reducible first | exact HB.out | apply below_alloc | apply pw_below_drewN | apply below_drew1) | exact HB.out))) : w.heap.size ≤ gb249)); clear HB; have HB := n0_; have BK249 := n1_; have GW249 := n2_; have GE249 := n3_; clear n0_ n1_ n2_ n3_; clear hb hbox hg) | ((with_reducible refine gate_dst (N := 3) rfl ?_); refine box_event ?hg (N := 3) ?hd (cs := #[.int .i64 a1_0, .int .i64 a1_1, .int .i64 a1_2, .bool a1_3, .int .u32 a1_4, .bool a1_5, .int .i64 a1_6, .slice A1_7 l1_7.length c1_7]) (t := 200) ?hr ?_; (case hd => rfl); (case hg => rfl); (case hr => first | (go_simp; done) | (go_simp; rfl)); intro gb250 hg w31 hbox hb; have n0_ := Aside0.mk (blk_below (g := gb249) (o := .cells #[.int .i64 a0_0, .int .i64 a0_1, .int .i64 a0_2, .bool a0_3, .int .u32 a0_4, .bool a0_5, .int .i64 a0_6, .slice A0_7 l0_7.length c0_7] 200 (0, 0)) (by (with_reducible repeat (first | refine blk_drewN ?_ _ | refine blk_drew ?_ | refine blk_alloc ?_ _)); exact BK249.out) hb); have n1_ := Aside0.mk (below_step (by repeat (first | (with_reducible first | exact HB.out | apply below_alloc | apply pw_below_drewN | apply below_drew1 | refine below_set ?_ GE249.out) | exact HB.out)) hb); have n2_ := Aside0.mk (hbox); have n3_ := Aside0.mk ((by rw [hg]; exact (below_size (by repeat (first | (with_reducible first | exact HB.out | apply below_alloc | apply pw_below_drewN | apply below_drew1 | refine below_set ?_ GE249.out) | exact HB.out))) : w.heap.size ≤ gb250)); have n4_ := Aside0.mk ((by rw [hg]; exact (below_size (by repeat (first | (with_reducible first | exact HB.out | apply below_alloc | apply pw_below_drewN | apply below_drew1 | refine below_set ?_ GE249.out) | exact HB.out))) : w.heap.size ≤ gb250)); have n5_ := Aside0.mk ((by rw [hg]; exact Nat.ne_of_lt (blk_lt (g := gb249) (o := .cells #[.int .i64 a0_0, .int .i64 a0_1, .int .i64 a0_2, .bool a0_3, .int .u32 a0_4, .bool a0_5, .int .i64 a0_6, .slice A0_7 l0_7.length c0_7] 200 (0, 0)) (by (with_reducible repeat (first | refine blk_drewN ?_ _ | refine blk_drew ?_ | refine blk_alloc ?_ _)); exact BK249.out)) : gb249 ≠ gb250)); have n6_ := Aside0.mk ((by rw [hg]; exact Nat.ne_of_gt (blk_lt (g := gb249) (o := .cells #[.int .i64 a0_0, .int .i64 a0_1, .int .i64 a0_2, .bool a0_3, .int .u32 a0_4, .bool a0_5, .int .i64 a0_6, .slice A0_7 l0_7.length c0_7] 200 (0, 0)) (by (with_reducible repeat (first | refine blk_drewN ?_ _ | refine blk_drew ?_ | refine blk_alloc ?_ _)); exact BK249.out)) : gb250 ≠ gb249)); clear BK249; clear HB; have BK249 := n0_; have HB := n1_; have BK250 := n2_; have GW250 := n3_; have GE250 := n4_; have NB249_250 := n5_; have NB250_249 := n6_; clear n0_ n1_ n2_ n3_ n4_ n5_ n6_; clear hb hbox hg; have hnb32 := NB249_250.out; have hnc32 := NB250_249.out; have hcz33_0 : w31.cell? ⟨gb249, 0, none⟩ = some (.int .i64 a0_0) := (blk_cell BK249.out 0).trans rfl; have hcz33_1 : w31.cell? ⟨gb249, 1, none⟩ = some (.int .i64 a0_1) := (blk_cell BK249.out 1).trans rfl; have hcz33_2 : w31.cell? ⟨gb249, 2, none⟩ = some (.int .i64 a0_2) := (blk_cell BK249.out 2).trans rfl; have hcz33_3 : w31.cell? ⟨gb249, 3, none⟩ = some (.bool a0_3) := (blk_cell BK249.out 3).trans rfl; have hcz33_4 : w31.cell? ⟨gb249, 4, none⟩ = some (.int .u32 a0_4) := (blk_cell BK249.out 4).trans rfl; have hcz33_5 : w31.cell? ⟨gb249, 5, none⟩ = some (.bool a0_5) := (blk_cell BK249.out 5).trans rfl; have hcz33_6 : w31.cell? ⟨gb249, 6, none⟩ = some (.int .i64 a0_6) := (blk_cell BK249.out 6).trans rfl; have hcz33_7 : w31.cell? ⟨gb249, 7, none⟩ = some (.slice A0_7 l0_7.length c0_7) := (blk_cell BK249.out 7).trans rfl; have hfz33_0 := blk_frozen BK249.out 0; have hfz33_1 := blk_frozen BK249.out 1; have hfz33_2 := blk_frozen BK249.out 2; have hfz33_3 := blk_frozen BK249.out 3; have hfz33_4 := blk_frozen BK249.out 4; have hfz33_5 := blk_frozen BK249.out 5; have hfz33_6 := blk_frozen BK249.out 6; have hfz33_7 := blk_frozen BK249.out 7; have hcz34_0 : w31.cell? ⟨gb250, 0, none⟩ = some (.int .i64 a1_0) := (blk_cell BK250.out 0).trans rfl; have hcz34_1 : w31.cell? ⟨gb250, 1, none⟩ = some (.int .i64 a1_1) := (blk_cell BK250.out 1).trans rfl; have hcz34_2 : w31.cell? ⟨gb250, 2, none⟩ = some (.int .i64 a1_2) := (blk_cell BK250.out 2).trans rfl; have hcz34_3 : w31.cell? ⟨gb250, 3, none⟩ = some (.bool a1_3) := (blk_cell BK250.out 3).trans rfl; have hcz34_4 : w31.cell? ⟨gb250, 4, none⟩ = some (.int .u32 a1_4) := (blk_cell BK250.out 4).trans rfl; have hcz34_5 : w31.cell? ⟨gb250, 5, none⟩ = some (.bool a1_5) := (blk_cell BK250.out 5).trans rfl; have hcz34_6 : w31.cell? ⟨gb250, 6, none⟩ = some (.int .i64 a1_6) := (blk_cell BK250.out 6).trans rfl; have hcz34_7 : w31.cell? ⟨gb250, 7, none⟩ = some (.slice A1_7 l1_7.length c1_7) := (blk_cell BK250.out 7).trans rfl; have hfz34_0 := blk_frozen BK250.out 0; have hfz34_1 := blk_frozen BK250.out 1; have hfz34_2 := blk_frozen BK250.out 2; have hfz34_3 := blk_frozen BK250.out 3; have hfz34_4 := blk_frozen BK250.out 4; have hfz34_5 := blk_frozen BK250.out 5; have hfz34_6 := blk_frozen BK250.out 6; have hfz34_7 := blk_frozen BK250.out 7))
    go_ret
    exact ⟨by first | rfl | (simp [errW_none, errW_some] <;> rfl) | (simp [*, errW_none, errW_some] <;> rfl), by repeat (first | (with_reducible first | exact HB.out | apply below_alloc | apply pw_below_drewN | apply below_drew1 | refine below_set ?_ GE249.out | refine below_set ?_ GE250.out) | exact HB.out)⟩
end Go.Proofs.Ytdoclpgciadjaaa.P

namespace Go.Proofs.Ytdoclpgciadjaaa.P
open Go.RowKit Go.Proofs.YtdoclpgciadjaaaW.PrintWords Go.Proofs.YtdoclpgciadjaaaW.PrintLast Go.Proofs.YtdoclpgciadjaaaW.PrintMore
set_option linter.unusedVariables false
set_option linter.unusedSimpArgs false
def laws_eqEventS.l0 : Nat → List (S200) → List (S200) → Int → Option (Bool)
  | 0, _, _, _ => none
  | k + 1, x0, x1, x5 => if x5 < (x0.length : Int) then (if 0 ≤ x5 then (if x5 < (x1.length : Int) then ((laws_eqEvent.f k ((rd_T200 x0 x5).f0) ((rd_T200 x0 x5).f1) ((rd_T200 x0 x5).f2) ((rd_T200 x0 x5).f3.f0) ((rd_T200 x0 x5).f3.f1) ((rd_T200 x0 x5).f3.f2) ((rd_T200 x0 x5).f3.f3) ((rd_T200 x0 x5).f3.f4) ((rd_T200 x1 x5).f0) ((rd_T200 x1 x5).f1) ((rd_T200 x1 x5).f2) ((rd_T200 x1 x5).f3.f0) ((rd_T200 x1 x5).f3.f1) ((rd_T200 x1 x5).f3.f2) ((rd_T200 x1 x5).f3.f3) ((rd_T200 x1 x5).f3.f4)).bind fun t254 => (if t254 = true then (laws_eqEventS.l0 k x0 x1 (wrap64 (x5 + 1))) else (some false))) else (none)) else (none)) else (some true)
def laws_eqEventS.f (k : Nat) (l0 : List (S200)) (l1 : List (S200)) : Option (Bool) := if (l0.length : Int) = (l1.length : Int) then (laws_eqEventS.l0 k l0 l1 0) else (some false)
theorem laws_eqEventS.mono_l : ∀ k, (∀ y0 y1 y2, LeO (laws_eqEventS.l0 k y0 y1 y2) (laws_eqEventS.l0 (k + 1) y0 y1 y2))
  | 0 => fun _ _ _ r h => by simp [laws_eqEventS.l0] at h
  | k + 1 => by
    have ih0 := laws_eqEventS.mono_l k
    · intro y0 y1 y2
      unfold laws_eqEventS.l0
      repeat' first
      | (with_reducible exact ih0 _ _ _)
      | (with_reducible exact laws_eqEvent.mono _ _ _ _ _ _ _ _ _ _ _ _ _ _ _ _ _)
      | (with_reducible exact LeO.refl _)
      | (with_reducible exact LeO.none _)
      | (with_reducible refine LeO.ite ?_ ?_)
      | (with_reducible refine LeO.bind ?_ (fun _ => ?_))
      | exact ih0 _ _ _
      | exact laws_eqEvent.mono _ _ _ _ _ _ _ _ _ _ _ _ _ _ _ _ _
      | exact LeO.none _
      | refine LeO.ite ?_ ?_
      | refine LeO.bind ?_ (fun _ => ?_)
theorem laws_eqEventS.mono : ∀ a0 a1 k, LeO (laws_eqEventS.f k a0 a1) (laws_eqEventS.f (k + 1) a0 a1) := by
  intro a0 a1 k
  have ih0 := laws_eqEventS.mono_l k
  unfold laws_eqEventS.f
  repeat' first
      | (with_reducible exact ih0 _ _ _)
      | (with_reducible exact laws_eqEvent.mono _ _ _ _ _ _ _ _ _ _ _ _ _ _ _ _ _)
      | (with_reducible exact LeO.refl _)
      | (with_reducible exact LeO.none _)
      | (with_reducible refine LeO.ite ?_ ?_)
      | (with_reducible refine LeO.bind ?_ (fun _ => ?_))
      | exact ih0 _ _ _
      | exact laws_eqEvent.mono _ _ _ _ _ _ _ _ _ _ _ _ _ _ _ _ _
      | exact LeO.none _
      | refine LeO.ite ?_ ?_
      | refine LeO.bind ?_ (fun _ => ?_)
def laws_eqEventS.T6 : Bool × List (List Nat × List Nat) := (true, [([], []), ([], []), ([0, 1], [0, 1]), ([2], [2]), ([], []), ([], []), ([4, 5], [4, 5]), ([6], [6]), ([3, 7], [3, 7]), ([8], [8])])
def laws_eqEventS.B6 : List Nat := [0, 0, 3, 7, 0, 0, 48, 112, 255, 511]
theorem laws_eqEventS.tab6 : rtab .any (opsOf Try.f119 6) = laws_eqEventS.T6 := by kernel_rfl
theorem laws_eqEventS.bits6 : waitsOk laws_eqEventS.T6.2 laws_eqEventS.B6 = true := by kernel_rfl
set_option maxHeartbeats 8000000 in
set_option maxRecDepth 100000 in
theorem laws_eqEventS.calls (k : Nat) (A0 : Option Addr) (c0 : Nat) (l0 : List (S200)) (A1 : Option Addr) (c1 : Nat) (l1 : List (S200)) (r : Bool) (w : World) (hr0 : Kd.C k200 w A0 l0.length l0) (hc0 : l0.length ≤ c0) (hr1 : Kd.C k200 w A1 l1.length l1) (hc1 : l1.length ≤ c1) (h : laws_eqEventS.f k l0 l1 = some r) :
    Calls Try.prog 119 #[.slice A0 l0.length c0, .slice A1 l1.length c1] w fun e w' => e = .returned (.bool r) ∧ Below w.heap.size w w' := by
  have hu200 := Try.underlying200
  have HR0 := Aside0.mk hr0
  have HC0 := Aside0.mk hc0
  clear hr0 hc0
  have HR1 := Aside0.mk hr1
  have HC1 := Aside0.mk hc1
  clear hr1 hc1
  have HB := Aside0.mk (Below.refl w.heap.size w)
  have H : (if (l0.length : Int) = (l1.length : Int) then (laws_eqEventS.l0 k l0 l1 0) else (some false)) = some r := h
  clear h
  by_cases c3 : (l0.length : Int) = (l1.length : Int)
  · rw [if_pos c3] at H
    have c3b0 : ((l0.length : Int) == (l1.length : Int)) = true := beq_iff_eq.mpr c3
    have c3b1 : ((l0.length : Int) != (l1.length : Int)) = false := bne_eq_false_iff_eq.mpr c3
    have c3b2 : (l0.length == l1.length) = true := by first | simpa using c3 | (simp at c3 ⊢; omega)
    clear c3
    have H' := Aside0.mk H
    clear H
    go_enter Try.func119, Try.ntmps119
    go_wp2
    go_loopg [5] k (fun kq v5 w' => ∃ (x5_1 : Int), v5 = .int .i64 x5_1 ∧ Aside0 (laws_eqEventS.l0 kq l0 l1 x5_1 = some r) ∧ Aside0 (kq ≤ k) ∧ Aside0 (Below w.heap.size w w'))
    case atStart => exact ⟨(0), (by first | rfl | (simp; done) | (simp [*]; done)), H', ⟨Nat.le_refl _⟩, ⟨by repeat (first | (with_reducible first | exact HB.out | apply below_alloc | apply pw_below_drewN | apply below_drew1) | exact HB.out)⟩⟩
    case round =>
      clear H'
      try clear c1
      try clear p2
      try clear c3
      try clear c3b0
      try clear c3b1
      try clear c3b2
      obtain ⟨x5_1, rfl, HA, HK1, HB⟩ := hrel
      cases gk with
      | zero => exact absurd HA.out (by simp [laws_eqEventS.l0])
      | succ k1 =>
        have H := HA.out
        clear HA
        simp only [laws_eqEventS.l0] at H
        by_cases c4 : x5_1 < (l0.length : Int)
        · rw [if_pos c4] at H
          have c4b0 : decide (x5_1 < (l0.length : Int)) = true := decide_eq_true c4
          clear c4
          by_cases c5 : 0 ≤ x5_1
          · rw [if_pos c5] at H
            have c5b0 : decide (0 ≤ x5_1) = true := decide_eq_true c5
            clear c5
            by_cases c6 : x5_1 < (l1.length : Int)
            · rw [if_pos c6] at H
              have c6b0 : decide (x5_1 < (l1.length : Int)) = true := decide_eq_true c6
              clear c6
              replace H := Option.bind_eq_some_iff.mp H
              obtain ⟨t254, A70, H⟩ := H
              replace H : (if t254 = true then (laws_eqEventS.l0 k1 l0 l1 (wrap64 (x5_1 + 1))) else (some false)) = some r := H
              have A7 := Aside0.mk A70
              clear A70
              by_cases c8 : t254 = true
              · subst c8
                have H1 : (laws_eqEventS.l0 k1 l0 l1 (wrap64 (x5_1 + 1))) = some r := by rw [if_pos rfl] at H; exact H
                clear H
                have H := H1
                clear H1
                have H' := Aside0.mk H
                clear H
                try go_wp2
                have n0_ := Aside0.mk (below_drew1 HB.out)
                clear HB
                have HB := n0_
                clear n0_
                have p252 : 0 ≤ (x5_1 : Int) := of_decide_eq_true (by first | (with_reducible assumption) | assumption)
                have q252 : x5_1 < (l0.length : Int) := of_decide_eq_true (by first | (with_reducible assumption) | assumption)
                obtain ⟨ad252, A252_7, c252_7, e252, hx252_0, hx252_1, hx252_2, hx252_3, hx252_4, hx252_5, hx252_6, hx252_7, hl252_7, hi252_7⟩ := at_T200 HR0.out x5_1 p252 q252
                have hw252_7 := hx252_7
                have hw252_6 := hx252_6
                have hw252_5 := hx252_5
                have hw252_4 := hx252_4
                have hw252_3 := hx252_3
                have hw252_2 := hx252_2
                have hw252_1 := hx252_1
                have hw252_0 := hx252_0
                cases e252
                replace hx252_0 := (HB.out.cell (World.block_lt_of_cell? w _ hx252_0)).trans hx252_0
                replace hx252_1 := (HB.out.cell (World.block_lt_of_cell? w _ hx252_1)).trans hx252_1
                replace hx252_2 := (HB.out.cell (World.block_lt_of_cell? w _ hx252_2)).trans hx252_2
                replace hx252_3 := (HB.out.cell (World.block_lt_of_cell? w _ hx252_3)).trans hx252_3
                replace hx252_4 := (HB.out.cell (World.block_lt_of_cell? w _ hx252_4)).trans hx252_4
                replace hx252_5 := (HB.out.cell (World.block_lt_of_cell? w _ hx252_5)).trans hx252_5
                replace hx252_6 := (HB.out.cell (World.block_lt_of_cell? w _ hx252_6)).trans hx252_6
                replace hx252_7 := (HB.out.cell (World.block_lt_of_cell? w _ hx252_7)).trans hx252_7
                have HR252_7 := Aside0.mk hi252_7
                have HC252_7 := Aside0.mk hl252_7
                clear hi252_7 hl252_7
                replace p252 := eq_true p252
                replace q252 := eq_true q252
                have p253 : 0 ≤ (x5_1 : Int) := of_decide_eq_true (by first | (with_reducible assumption) | assumption)
                have q253 : x5_1 < (l1.length : Int) := of_decide_eq_true (by first | (with_reducible assumption) | assumption)
                obtain ⟨ad253, A253_7, c253_7, e253, hx253_0, hx253_1, hx253_2, hx253_3, hx253_4, hx253_5, hx253_6, hx253_7, hl253_7, hi253_7⟩ := at_T200 HR1.out x5_1 p253 q253
                have hw253_7 := hx253_7
                have hw253_6 := hx253_6
                have hw253_5 := hx253_5
                have hw253_4 := hx253_4
                have hw253_3 := hx253_3
                have hw253_2 := hx253_2
                have hw253_1 := hx253_1
                have hw253_0 := hx253_0
                cases e253
                replace hx253_0 := (HB.out.cell (World.block_lt_of_cell? w _ hx253_0)).trans hx253_0
                replace hx253_1 := (HB.out.cell (World.block_lt_of_cell? w _ hx253_1)).trans hx253_1
                replace hx253_2 := (HB.out.cell (World.block_lt_of_cell? w _ hx253_2)).trans hx253_2
                replace hx253_3 := (HB.out.cell (World.block_lt_of_cell? w _ hx253_3)).trans hx253_3
                replace hx253_4 := (HB.out.cell (World.block_lt_of_cell? w _ hx253_4)).trans hx253_4
                replace hx253_5 := (HB.out.cell (World.block_lt_of_cell? w _ hx253_5)).trans hx253_5
                replace hx253_6 := (HB.out.cell (World.block_lt_of_cell? w _ hx253_6)).trans hx253_6
                replace hx253_7 := (HB.out.cell (World.block_lt_of_cell? w _ hx253_7)).trans hx253_7
                have HR253_7 := Aside0.mk hi253_7
                have HC253_7 := Aside0.mk hl253_7
                clear hi253_7 hl253_7
                replace p253 := eq_true p253
                replace q253 := eq_true q253
                refine start_ (n := 10) (S := fun w' => w'.cell? (ad252.add ((x5_1).toNat * 8)) = some (.int .i64 ((rd_T200 l0 x5_1).f0)) ∧ w'.cell? ⟨(ad252.add ((x5_1).toNat * 8)).block, (ad252.add ((x5_1).toNat * 8)).off + 1, none⟩ = some (.int .i64 ((rd_T200 l0 x5_1).f1)) ∧ w'.cell? ⟨(ad252.add ((x5_1).toNat * 8)).block, (ad252.add ((x5_1).toNat * 8)).off + 2, none⟩ = some (.int .i64 ((rd_T200 l0 x5_1).f2)) ∧ w'.cell? ⟨(ad252.add ((x5_1).toNat * 8)).block, (ad252.add ((x5_1).toNat * 8)).off + 3, none⟩ = some (.bool ((rd_T200 l0 x5_1).f3.f0)) ∧ w'.cell? ⟨(ad252.add ((x5_1).toNat * 8)).block, (ad252.add ((x5_1).toNat * 8)).off + 4, none⟩ = some (.int .u32 ((rd_T200 l0 x5_1).f3.f1)) ∧ w'.cell? ⟨(ad252.add ((x5_1).toNat * 8)).block, (ad252.add ((x5_1).toNat * 8)).off + 5, none⟩ = some (.bool ((rd_T200 l0 x5_1).f3.f2)) ∧ w'.cell? ⟨(ad252.add ((x5_1).toNat * 8)).block, (ad252.add ((x5_1).toNat * 8)).off + 6, none⟩ = some (.int .i64 ((rd_T200 l0 x5_1).f3.f3)) ∧ w'.cell? ⟨(ad252.add ((x5_1).toNat * 8)).block, (ad252.add ((x5_1).toNat * 8)).off + 7, none⟩ = some (.slice A252_7 ((rd_T200 l0 x5_1).f3.f4).length c252_7) ∧ w'.cell? (ad253.add ((x5_1).toNat * 8)) = some (.int .i64 ((rd_T200 l1 x5_1).f0)) ∧ w'.cell? ⟨(ad253.add ((x5_1).toNat * 8)).block, (ad253.add ((x5_1).toNat * 8)).off + 1, none⟩ = some (.int .i64 ((rd_T200 l1 x5_1).f1)) ∧ w'.cell? ⟨(ad253.add ((x5_1).toNat * 8)).block, (ad253.add ((x5_1).toNat * 8)).off + 2, none⟩ = some (.int .i64 ((rd_T200 l1 x5_1).f2)) ∧ w'.cell? ⟨(ad253.add ((x5_1).toNat * 8)).block, (ad253.add ((x5_1).toNat * 8)).off + 3, none⟩ = some (.bool ((rd_T200 l1 x5_1).f3.f0)) ∧ w'.cell? ⟨(ad253.add ((x5_1).toNat * 8)).block, (ad253.add ((x5_1).toNat * 8)).off + 4, none⟩ = some (.int .u32 ((rd_T200 l1 x5_1).f3.f1)) ∧ w'.cell? ⟨(ad253.add ((x5_1).toNat * 8)).block, (ad253.add ((x5_1).toNat * 8)).off + 5, none⟩ = some (.bool ((rd_T200 l1 x5_1).f3.f2)) ∧ w'.cell? ⟨(ad253.add ((x5_1).toNat * 8)).block, (ad253.add ((x5_1).toNat * 8)).off + 6, none⟩ = some (.int .i64 ((rd_T200 l1 x5_1).f3.f3)) ∧ w'.cell? ⟨(ad253.add ((x5_1).toNat * 8)).block, (ad253.add ((x5_1).toNat * 8)).off + 7, none⟩ = some (.slice A253_7 ((rd_T200 l1 x5_1).f3.f4).length c253_7)) (ds := []) #[false, false, false, false, false, false, false, false, false, false] (by kernel_rfl) rfl rfl ⟨((HB.out.cell (World.block_lt_of_cell? w _ hw252_0)).trans hw252_0), ((HB.out.cell (World.block_lt_of_cell? w _ hw252_1)).trans hw252_1), ((HB.out.cell (World.block_lt_of_cell? w _ hw252_2)).trans hw252_2), ((HB.out.cell (World.block_lt_of_cell? w _ hw252_3)).trans hw252_3), ((HB.out.cell (World.block_lt_of_cell? w _ hw252_4)).trans hw252_4), ((HB.out.cell (World.block_lt_of_cell? w _ hw252_5)).trans hw252_5), ((HB.out.cell (World.block_lt_of_cell? w _ hw252_6)).trans hw252_6), ((HB.out.cell (World.block_lt_of_cell? w _ hw252_7)).trans hw252_7), ((HB.out.cell (World.block_lt_of_cell? w _ hw253_0)).trans hw253_0), ((HB.out.cell (World.block_lt_of_cell? w _ hw253_1)).trans hw253_1), ((HB.out.cell (World.block_lt_of_cell? w _ hw253_2)).trans hw253_2), ((HB.out.cell (World.block_lt_of_cell? w _ hw253_3)).trans hw253_3), ((HB.out.cell (World.block_lt_of_cell? w _ hw253_4)).trans hw253_4), ((HB.out.cell (World.block_lt_of_cell? w _ hw253_5)).trans hw253_5), ((HB.out.cell (World.block_lt_of_cell? w _ hw253_6)).trans hw253_6), ((HB.out.cell (World.block_lt_of_cell? w _ hw253_7)).trans hw253_7)⟩ (fun hHeld => ?_); refine with_tabW laws_eqEventS.tab6 laws_eqEventS.bits6 (fun HT_ HW_ => ?_)
                generalize wr.drew = w9 at HB HR252_7 HR253_7 hx252_0 hx252_1 hx252_2 hx252_3 hx252_4 hx252_5 hx252_6 hx252_7 hx253_0 hx253_1 hx253_2 hx253_3 hx253_4 hx253_5 hx253_6 hx253_7 hHeld ⊢
                refine pure_ (i := 0) (N := some 17) (v := ?_) (a' := ?_) #[true, false, false, false, false, false, false, false, false, false] rfl rfl (any_of HT_.out (by kernel_rfl)) (fun _ _ _ h => h) (Or.inl ⟨by rfl, ?_⟩) ?_ ?_
                rotate_left
                · intro w'
                  go_simp
                  with_reducible rfl
                rotate_left
                · simp only [Act.put, List.setIfInBounds_toArray, List.set_cons_zero, List.set_cons_succ, i64_w, i32_w]
                  rfl
                refine pure_ (i := 1) (N := some 18) (v := ?_) (a' := ?_) #[true, true, false, false, false, false, false, false, false, false] rfl rfl (any_of HT_.out (by kernel_rfl)) (fun _ _ _ h => h) (Or.inl ⟨by rfl, ?_⟩) ?_ ?_
                rotate_left
                · intro w'
                  go_simp
                  with_reducible rfl
                rotate_left
                · simp only [Act.put, List.setIfInBounds_toArray, List.set_cons_zero, List.set_cons_succ, i64_w, i32_w]
                  rfl
                refine pure_ (i := 2) (N := some 19) (v := ?_) (a' := ?_) #[true, true, true, false, false, false, false, false, false, false] rfl rfl (any_of HT_.out (by kernel_rfl)) (fun _ _ _ h => h) (Or.inl ⟨by rfl, ?_⟩) ?_ ?_
                rotate_left
                · intro w'
                  go_simp
                  with_reducible rfl
                rotate_left
                · simp only [Act.put, List.setIfInBounds_toArray, List.set_cons_zero, List.set_cons_succ, i64_w, i32_w]
                  rfl
                refine pure_ (i := 4) (N := some 21) (v := ?_) (a' := ?_) #[true, true, true, false, true, false, false, false, false, false] rfl rfl (any_of HT_.out (by kernel_rfl)) (fun _ _ _ h => h) (Or.inl ⟨by rfl, ?_⟩) ?_ ?_
                rotate_left
                · intro w'
                  go_simp
                  with_reducible rfl
                rotate_left
                · simp only [Act.put, List.setIfInBounds_toArray, List.set_cons_zero, List.set_cons_succ, i64_w, i32_w]
                  rfl
                refine pure_ (i := 5) (N := some 22) (v := ?_) (a' := ?_) #[true, true, true, false, true, true, false, false, false, false] rfl rfl (any_of HT_.out (by kernel_rfl)) (fun _ _ _ h => h) (Or.inl ⟨by rfl, ?_⟩) ?_ ?_
                rotate_left
                · intro w'
                  go_simp
                  with_reducible rfl
                rotate_left
                · simp only [Act.put, List.setIfInBounds_toArray, List.set_cons_zero, List.set_cons_succ, i64_w, i32_w]
                  rfl
                refine pure_ (i := 6) (N := some 23) (v := ?_) (a' := ?_) #[true, true, true, false, true, true, true, false, false, false] rfl rfl (any_of HT_.out (by kernel_rfl)) (fun _ _ _ h => h) (Or.inl ⟨by rfl, ?_⟩) ?_ ?_
                rotate_left
                · intro w'
                  go_simp
                  with_reducible rfl
                rotate_left
                · simp only [Act.put, List.setIfInBounds_toArray, List.set_cons_zero, List.set_cons_succ, i64_w, i32_w]
                  rfl
                refine take_ (i := 3) (N := some 20) (v := ?_) (a' := ?_) #[true, true, true, true, true, true, true, false, false, false] rfl rfl (take_ofW HT_.out HW_.out (by kernel_rfl)) (fun _ _ _ h => h) (Or.inl ⟨by rfl, ?_⟩) hHeld ?_ ?_
                rotate_left
                · rintro w' ⟨s0, s1, s2, s3, s4, s5, s6, s7, s8, s9, s10, s11, s12, s13, s14, s15⟩
                  go_simp
                  with_reducible rfl
                rotate_left
                · simp only [Act.put, List.setIfInBounds_toArray, List.set_cons_zero, List.set_cons_succ, i64_w, i32_w]
                  rfl
                refine take_ (i := 7) (N := some 24) (v := ?_) (a' := ?_) #[true, true, true, true, true, true, true, true, false, false] rfl rfl (take_ofW HT_.out HW_.out (by kernel_rfl)) (fun _ _ _ h => h) (Or.inl ⟨by rfl, ?_⟩) hHeld ?_ ?_
                rotate_left
                · rintro w' ⟨s0, s1, s2, s3, s4, s5, s6, s7, s8, s9, s10, s11, s12, s13, s14, s15⟩
                  go_simp
                  with_reducible rfl
                rotate_left
                · simp only [Act.put, List.setIfInBounds_toArray, List.set_cons_zero, List.set_cons_succ, i64_w, i32_w]
                  rfl
                refine one_ (i := 8) (N := some 25) #[true, true, true, true, true, true, true, true, true, false] rfl rfl (one_of HT_.out (by kernel_rfl)) (by decide) (fun K hK => ?_)
                refine goes_ Try.func154 (by kernel_rfl) rfl #[.agg #[.int .i64 ((rd_T200 l0 x5_1).f0), .int .i64 ((rd_T200 l0 x5_1).f1), .int .i64 ((rd_T200 l0 x5_1).f2), .bool ((rd_T200 l0 x5_1).f3.f0), .int .u32 ((rd_T200 l0 x5_1).f3.f1), .bool ((rd_T200 l0 x5_1).f3.f2), .int .i64 ((rd_T200 l0 x5_1).f3.f3), .slice A252_7 ((rd_T200 l0 x5_1).f3.f4).length c252_7], .agg #[.int .i64 ((rd_T200 l1 x5_1).f0), .int .i64 ((rd_T200 l1 x5_1).f1), .int .i64 ((rd_T200 l1 x5_1).f2), .bool ((rd_T200 l1 x5_1).f3.f0), .int .u32 ((rd_T200 l1 x5_1).f3.f1), .bool ((rd_T200 l1 x5_1).f3.f2), .int .i64 ((rd_T200 l1 x5_1).f3.f3), .slice A253_7 ((rd_T200 l1 x5_1).f3.f4).length c253_7]] (by rfl) rfl rfl (by (try simp only [List.map_toArray, List.map_cons, List.map_nil]); first | done | rfl | (simp only [List.length_drop, List.length_take]; rfl)) ?_
                with_reducible refine (laws_eqEvent.calls k1 ((rd_T200 l0 x5_1).f0) ((rd_T200 l0 x5_1).f1) ((rd_T200 l0 x5_1).f2) ((rd_T200 l0 x5_1).f3.f0) ((rd_T200 l0 x5_1).f3.f1) ((rd_T200 l0 x5_1).f3.f2) ((rd_T200 l0 x5_1).f3.f3) _ _ ((rd_T200 l0 x5_1).f3.f4) ((rd_T200 l1 x5_1).f0) ((rd_T200 l1 x5_1).f1) ((rd_T200 l1 x5_1).f2) ((rd_T200 l1 x5_1).f3.f0) ((rd_T200 l1 x5_1).f3.f1) ((rd_T200 l1 x5_1).f3.f2) ((rd_T200 l1 x5_1).f3.f3) _ _ ((rd_T200 l1 x5_1).f3.f4) true _ ?side1 ?side2 ?side3 ?side4 A7.out).mono ?_
                (case side1 => repeat (first | exact (Kd.C_below HR252_7.out HB.out) | (with_reducible refine Kd.C_alloc ?_ _) | (with_reducible refine Kd.C_drewN ?_ _) | (with_reducible refine Kd.C_drew ?_)))
                (case side2 => exact HC252_7.out)
                (case side3 => repeat (first | exact (Kd.C_below HR253_7.out HB.out) | (with_reducible refine Kd.C_alloc ?_ _) | (with_reducible refine Kd.C_drewN ?_ _) | (with_reducible refine Kd.C_drew ?_)))
                (case side4 => exact HC253_7.out)
                rintro e w10 ⟨rfl, hb⟩
                refine ⟨_, rfl, ?_⟩
                have n0_ := Aside0.mk (below_step (by repeat (first | (with_reducible first | exact HB.out | apply below_alloc | apply pw_below_drewN | apply below_drew1) | exact HB.out)) hb)
                clear HB
                have HB := n0_
                clear n0_
                (try clear hb)
                (try clear hb2)
                (try clear hk)
                (try clear hi)
                refine hK.out _ _ ⟨((HB.out.cell (World.block_lt_of_cell? w _ hw252_0)).trans hw252_0), ((HB.out.cell (World.block_lt_of_cell? w _ hw252_1)).trans hw252_1), ((HB.out.cell (World.block_lt_of_cell? w _ hw252_2)).trans hw252_2), ((HB.out.cell (World.block_lt_of_cell? w _ hw252_3)).trans hw252_3), ((HB.out.cell (World.block_lt_of_cell? w _ hw252_4)).trans hw252_4), ((HB.out.cell (World.block_lt_of_cell? w _ hw252_5)).trans hw252_5), ((HB.out.cell (World.block_lt_of_cell? w _ hw252_6)).trans hw252_6), ((HB.out.cell (World.block_lt_of_cell? w _ hw252_7)).trans hw252_7), ((HB.out.cell (World.block_lt_of_cell? w _ hw253_0)).trans hw253_0), ((HB.out.cell (World.block_lt_of_cell? w _ hw253_1)).trans hw253_1), ((HB.out.cell (World.block_lt_of_cell? w _ hw253_2)).trans hw253_2), ((HB.out.cell (World.block_lt_of_cell? w _ hw253_3)).trans hw253_3), ((HB.out.cell (World.block_lt_of_cell? w _ hw253_4)).trans hw253_4), ((HB.out.cell (World.block_lt_of_cell? w _ hw253_5)).trans hw253_5), ((HB.out.cell (World.block_lt_of_cell? w _ hw253_6)).trans hw253_6), ((HB.out.cell (World.block_lt_of_cell? w _ hw253_7)).trans hw253_7)⟩ (fun hHeld => ?_)
                clear hK K
                refine norm_ (a' := ?_) ?_ ?_
                rotate_left
                · show Act.put _ (some 25) _ = _
                  simp only [Act.put, List.setIfInBounds_toArray, List.set_cons_zero, List.set_cons_succ, i64_w, i32_w]
                  rfl
                refine pure_ (i := 9) (N := some 26) (v := ?_) (a' := ?_) #[true, true, true, true, true, true, true, true, true, true] rfl rfl (any_of HT_.out (by kernel_rfl)) (fun _ _ _ h => h) (Or.inl ⟨by rfl, ?_⟩) ?_ ?_
                rotate_left
                · intro w'
                  go_simp
                  with_reducible rfl
                rotate_left
                · simp only [Act.put, List.setIfInBounds_toArray, List.set_cons_zero, List.set_cons_succ, i64_w, i32_w]
                  rfl
                refine done_ (done_of HT_.out (by kernel_rfl)) ?_
                try go_wp2
                go_roundg k1
                case measure => have := HK1.out; omega
                case rel => exact ⟨(wrap64 (x5_1 + 1)), (by first | rfl | (simp; done) | (simp [*]; done)), H', ⟨by have := HK1.out; omega⟩, ⟨by repeat (first | (with_reducible first | exact HB.out | apply below_alloc | apply pw_below_drewN | apply below_drew1) | exact HB.out)⟩⟩
              · replace c8 := Bool.eq_false_iff.mpr c8
                subst c8
                have H1 : (some false) = some r := by rw [if_neg (show ¬ (false = true) by decide)] at H; exact H
                clear H
                have H := H1
                clear H1
                obtain rfl := Option.some.inj H
                try go_wp2
                have n0_ := Aside0.mk (below_drew1 HB.out)
                clear HB
                have HB := n0_
                clear n0_
                have p252 : 0 ≤ (x5_1 : Int) := of_decide_eq_true (by first | (with_reducible assumption) | assumption)
                have q252 : x5_1 < (l0.length : Int) := of_decide_eq_true (by first | (with_reducible assumption) | assumption)
                obtain ⟨ad252, A252_7, c252_7, e252, hx252_0, hx252_1, hx252_2, hx252_3, hx252_4, hx252_5, hx252_6, hx252_7, hl252_7, hi252_7⟩ := at_T200 HR0.out x5_1 p252 q252
                have hw252_7 := hx252_7
                have hw252_6 := hx252_6
                have hw252_5 := hx252_5
                have hw252_4 := hx252_4
                have hw252_3 := hx252_3
                have hw252_2 := hx252_2
                have hw252_1 := hx252_1
                have hw252_0 := hx252_0
                cases e252
                replace hx252_0 := (HB.out.cell (World.block_lt_of_cell? w _ hx252_0)).trans hx252_0
                replace hx252_1 := (HB.out.cell (World.block_lt_of_cell? w _ hx252_1)).trans hx252_1
                replace hx252_2 := (HB.out.cell (World.block_lt_of_cell? w _ hx252_2)).trans hx252_2
                replace hx252_3 := (HB.out.cell (World.block_lt_of_cell? w _ hx252_3)).trans hx252_3
                replace hx252_4 := (HB.out.cell (World.block_lt_of_cell? w _ hx252_4)).trans hx252_4
                replace hx252_5 := (HB.out.cell (World.block_lt_of_cell? w _ hx252_5)).trans hx252_5
                replace hx252_6 := (HB.out.cell (World.block_lt_of_cell? w _ hx252_6)).trans hx252_6
                replace hx252_7 := (HB.out.cell (World.block_lt_of_cell? w _ hx252_7)).trans hx252_7
                have HR252_7 := Aside0.mk hi252_7
                have HC252_7 := Aside0.mk hl252_7
                clear hi252_7 hl252_7
                replace p252 := eq_true p252
                replace q252 := eq_true q252
                have p253 : 0 ≤ (x5_1 : Int) := of_decide_eq_true (by first | (with_reducible assumption) | assumption)
                have q253 : x5_1 < (l1.length : Int) := of_decide_eq_true (by first | (with_reducible assumption) | assumption)
                obtain ⟨ad253, A253_7, c253_7, e253, hx253_0, hx253_1, hx253_2, hx253_3, hx253_4, hx253_5, hx253_6, hx253_7, hl253_7, hi253_7⟩ := at_T200 HR1.out x5_1 p253 q253
                have hw253_7 := hx253_7
                have hw253_6 := hx253_6
                have hw253_5 := hx253_5
                have hw253_4 := hx253_4
                have hw253_3 := hx253_3
                have hw253_2 := hx253_2
                have hw253_1 := hx253_1
                have hw253_0 := hx253_0
                cases e253
                replace hx253_0 := (HB.out.cell (World.block_lt_of_cell? w _ hx253_0)).trans hx253_0
                replace hx253_1 := (HB.out.cell (World.block_lt_of_cell? w _ hx253_1)).trans hx253_1
                replace hx253_2 := (HB.out.cell (World.block_lt_of_cell? w _ hx253_2)).trans hx253_2
                replace hx253_3 := (HB.out.cell (World.block_lt_of_cell? w _ hx253_3)).trans hx253_3
                replace hx253_4 := (HB.out.cell (World.block_lt_of_cell? w _ hx253_4)).trans hx253_4
                replace hx253_5 := (HB.out.cell (World.block_lt_of_cell? w _ hx253_5)).trans hx253_5
                replace hx253_6 := (HB.out.cell (World.block_lt_of_cell? w _ hx253_6)).trans hx253_6
                replace hx253_7 := (HB.out.cell (World.block_lt_of_cell? w _ hx253_7)).trans hx253_7
                have HR253_7 := Aside0.mk hi253_7
                have HC253_7 := Aside0.mk hl253_7
                clear hi253_7 hl253_7
                replace p253 := eq_true p253
                replace q253 := eq_true q253
                refine start_ (n := 10) (S := fun w' => w'.cell? (ad252.add ((x5_1).toNat * 8)) = some (.int .i64 ((rd_T200 l0 x5_1).f0)) ∧ w'.cell? ⟨(ad252.add ((x5_1).toNat * 8)).block, (ad252.add ((x5_1).toNat * 8)).off + 1, none⟩ = some (.int .i64 ((rd_T200 l0 x5_1).f1)) ∧ w'.cell? ⟨(ad252.add ((x5_1).toNat * 8)).block, (ad252.add ((x5_1).toNat * 8)).off + 2, none⟩ = some (.int .i64 ((rd_T200 l0 x5_1).f2)) ∧ w'.cell? ⟨(ad252.add ((x5_1).toNat * 8)).block, (ad252.add ((x5_1).toNat * 8)).off + 3, none⟩ = some (.bool ((rd_T200 l0 x5_1).f3.f0)) ∧ w'.cell? ⟨(ad252.add ((x5_1).toNat * 8)).block, (ad252.add ((x5_1).toNat * 8)).off + 4, none⟩ = some (.int .u32 ((rd_T200 l0 x5_1).f3.f1)) ∧ w'.cell? ⟨(ad252.add ((x5_1).toNat * 8)).block, (ad252.add ((x5_1).toNat * 8)).off + 5, none⟩ = some (.bool ((rd_T200 l0 x5_1).f3.f2)) ∧ w'.cell? ⟨(ad252.add ((x5_1).toNat * 8)).block, (ad252.add ((x5_1).toNat * 8)).off + 6, none⟩ = some (.int .i64 ((rd_T200 l0 x5_1).f3.f3)) ∧ w'.cell? ⟨(ad252.add ((x5_1).toNat * 8)).block, (ad252.add ((x5_1).toNat * 8)).off + 7, none⟩ = some (.slice A252_7 ((rd_T200 l0 x5_1).f3.f4).length c252_7) ∧ w'.cell? (ad253.add ((x5_1).toNat * 8)) = some (.int .i64 ((rd_T200 l1 x5_1).f0)) ∧ w'.cell? ⟨(ad253.add ((x5_1).toNat * 8)).block, (ad253.add ((x5_1).toNat * 8)).off + 1, none⟩ = some (.int .i64 ((rd_T200 l1 x5_1).f1)) ∧ w'.cell? ⟨(ad253.add ((x5_1).toNat * 8)).block, (ad253.add ((x5_1).toNat * 8)).off + 2, none⟩ = some (.int .i64 ((rd_T200 l1 x5_1).f2)) ∧ w'.cell? ⟨(ad253.add ((x5_1).toNat * 8)).block, (ad253.add ((x5_1).toNat * 8)).off + 3, none⟩ = some (.bool ((rd_T200 l1 x5_1).f3.f0)) ∧ w'.cell? ⟨(ad253.add ((x5_1).toNat * 8)).block, (ad253.add ((x5_1).toNat * 8)).off + 4, none⟩ = some (.int .u32 ((rd_T200 l1 x5_1).f3.f1)) ∧ w'.cell? ⟨(ad253.add ((x5_1).toNat * 8)).block, (ad253.add ((x5_1).toNat * 8)).off + 5, none⟩ = some (.bool ((rd_T200 l1 x5_1).f3.f2)) ∧ w'.cell? ⟨(ad253.add ((x5_1).toNat * 8)).block, (ad253.add ((x5_1).toNat * 8)).off + 6, none⟩ = some (.int .i64 ((rd_T200 l1 x5_1).f3.f3)) ∧ w'.cell? ⟨(ad253.add ((x5_1).toNat * 8)).block, (ad253.add ((x5_1).toNat * 8)).off + 7, none⟩ = some (.slice A253_7 ((rd_T200 l1 x5_1).f3.f4).length c253_7)) (ds := []) #[false, false, false, false, false, false, false, false, false, false] (by kernel_rfl) rfl rfl ⟨((HB.out.cell (World.block_lt_of_cell? w _ hw252_0)).trans hw252_0), ((HB.out.cell (World.block_lt_of_cell? w _ hw252_1)).trans hw252_1), ((HB.out.cell (World.block_lt_of_cell? w _ hw252_2)).trans hw252_2), ((HB.out.cell (World.block_lt_of_cell? w _ hw252_3)).trans hw252_3), ((HB.out.cell (World.block_lt_of_cell? w _ hw252_4)).trans hw252_4), ((HB.out.cell (World.block_lt_of_cell? w _ hw252_5)).trans hw252_5), ((HB.out.cell (World.block_lt_of_cell? w _ hw252_6)).trans hw252_6), ((HB.out.cell (World.block_lt_of_cell? w _ hw252_7)).trans hw252_7), ((HB.out.cell (World.block_lt_of_cell? w _ hw253_0)).trans hw253_0), ((HB.out.cell (World.block_lt_of_cell? w _ hw253_1)).trans hw253_1), ((HB.out.cell (World.block_lt_of_cell? w _ hw253_2)).trans hw253_2), ((HB.out.cell (World.block_lt_of_cell? w _ hw253_3)).trans hw253_3), ((HB.out.cell (World.block_lt_of_cell? w _ hw253_4)).trans hw253_4), ((HB.out.cell (World.block_lt_of_cell? w _ hw253_5)).trans hw253_5), ((HB.out.cell (World.block_lt_of_cell? w _ hw253_6)).trans hw253_6), ((HB.out.cell (World.block_lt_of_cell? w _ hw253_7)).trans hw253_7)⟩ (fun hHeld => ?_); refine with_tabW laws_eqEventS.tab6 laws_eqEventS.bits6 (fun HT_ HW_ => ?_)
                generalize wr.drew = w11 at HB HR252_7 HR253_7 hx252_0 hx252_1 hx252_2 hx252_3 hx252_4 hx252_5 hx252_6 hx252_7 hx253_0 hx253_1 hx253_2 hx253_3 hx253_4 hx253_5 hx253_6 hx253_7 hHeld ⊢
                refine pure_ (i := 0) (N := some 17) (v := ?_) (a' := ?_) #[true, false, false, false, false, false, false, false, false, false] rfl rfl (any_of HT_.out (by kernel_rfl)) (fun _ _ _ h => h) (Or.inl ⟨by rfl, ?_⟩) ?_ ?_
                rotate_left
                · intro w'
                  go_simp
                  with_reducible rfl
                rotate_left
                · simp only [Act.put, List.setIfInBounds_toArray, List.set_cons_zero, List.set_cons_succ, i64_w, i32_w]
                  rfl
                refine pure_ (i := 1) (N := some 18) (v := ?_) (a' := ?_) #[true, true, false, false, false, false, false, false, false, false] rfl rfl (any_of HT_.out (by kernel_rfl)) (fun _ _ _ h => h) (Or.inl ⟨by rfl, ?_⟩) ?_ ?_
                rotate_left
                · intro w'
                  go_simp
                  with_reducible rfl
                rotate_left
                · simp only [Act.put, List.setIfInBounds_toArray, List.set_cons_zero, List.set_cons_succ, i64_w, i32_w]
                  rfl
                refine pure_ (i := 2) (N := some 19) (v := ?_) (a' := ?_) #[true, true, true, false, false, false, false, false, false, false] rfl rfl (any_of HT_.out (by kernel_rfl)) (fun _ _ _ h => h) (Or.inl ⟨by rfl, ?_⟩) ?_ ?_
                rotate_left
                · intro w'
                  go_simp
                  with_reducible rfl
                rotate_left
                · simp only [Act.put, List.setIfInBounds_toArray, List.set_cons_zero, List.set_cons_succ, i64_w, i32_w]
                  rfl
                refine pure_ (i := 4) (N := some 21) (v := ?_) (a' := ?_) #[true, true, true, false, true, false, false, false, false, false] rfl rfl (any_of HT_.out (by kernel_rfl)) (fun _ _ _ h => h) (Or.inl ⟨by rfl, ?_⟩) ?_ ?_
                rotate_left
                · intro w'
                  go_simp
                  with_reducible rfl
                rotate_left
                · simp only [Act.put, List.setIfInBounds_toArray, List.set_cons_zero, List.set_cons_succ, i64_w, i32_w]
                  rfl
                refine pure_ (i := 5) (N := some 22) (v := ?_) (a' := ?_) #[true, true, true, false, true, true, false, false, false, false] rfl rfl (any_of HT_.out (by kernel_rfl)) (fun _ _ _ h => h) (Or.inl ⟨by rfl, ?_⟩) ?_ ?_
                rotate_left
                · intro w'
                  go_simp
                  with_reducible rfl
                rotate_left
                · simp only [Act.put, List.setIfInBounds_toArray, List.set_cons_zero, List.set_cons_succ, i64_w, i32_w]
                  rfl
                refine pure_ (i := 6) (N := some 23) (v := ?_) (a' := ?_) #[true, true, true, false, true, true, true, false, false, false] rfl rfl (any_of HT_.out (by kernel_rfl)) (fun _ _ _ h => h) (Or.inl ⟨by rfl, ?_⟩) ?_ ?_
                rotate_left
                · intro w'
                  go_simp
                  with_reducible rfl
                rotate_left
                · simp only [Act.put, List.setIfInBounds_toArray, List.set_cons_zero, List.set_cons_succ, i64_w, i32_w]
                  rfl
                refine take_ (i := 3) (N := some 20) (v := ?_) (a' := ?_) #[true, true, true, true, true, true, true, false, false, false] rfl rfl (take_ofW HT_.out HW_.out (by kernel_rfl)) (fun _ _ _ h => h) (Or.inl ⟨by rfl, ?_⟩) hHeld ?_ ?_
                rotate_left
                · rintro w' ⟨s0, s1, s2, s3, s4, s5, s6, s7, s8, s9, s10, s11, s12, s13, s14, s15⟩
                  go_simp
                  with_reducible rfl
                rotate_left
                · simp only [Act.put, List.setIfInBounds_toArray, List.set_cons_zero, List.set_cons_succ, i64_w, i32_w]
                  rfl
                refine take_ (i := 7) (N := some 24) (v := ?_) (a' := ?_) #[true, true, true, true, true, true, true, true, false, false] rfl rfl (take_ofW HT_.out HW_.out (by kernel_rfl)) (fun _ _ _ h => h) (Or.inl ⟨by rfl, ?_⟩) hHeld ?_ ?_
                rotate_left
                · rintro w' ⟨s0, s1, s2, s3, s4, s5, s6, s7, s8, s9, s10, s11, s12, s13, s14, s15⟩
                  go_simp
                  with_reducible rfl
                rotate_left
                · simp only [Act.put, List.setIfInBounds_toArray, List.set_cons_zero, List.set_cons_succ, i64_w, i32_w]
                  rfl
                refine one_ (i := 8) (N := some 25) #[true, true, true, true, true, true, true, true, true, false] rfl rfl (one_of HT_.out (by kernel_rfl)) (by decide) (fun K hK => ?_)
                refine goes_ Try.func154 (by kernel_rfl) rfl #[.agg #[.int .i64 ((rd_T200 l0 x5_1).f0), .int .i64 ((rd_T200 l0 x5_1).f1), .int .i64 ((rd_T200 l0 x5_1).f2), .bool ((rd_T200 l0 x5_1).f3.f0), .int .u32 ((rd_T200 l0 x5_1).f3.f1), .bool ((rd_T200 l0 x5_1).f3.f2), .int .i64 ((rd_T200 l0 x5_1).f3.f3), .slice A252_7 ((rd_T200 l0 x5_1).f3.f4).length c252_7], .agg #[.int .i64 ((rd_T200 l1 x5_1).f0), .int .i64 ((rd_T200 l1 x5_1).f1), .int .i64 ((rd_T200 l1 x5_1).f2), .bool ((rd_T200 l1 x5_1).f3.f0), .int .u32 ((rd_T200 l1 x5_1).f3.f1), .bool ((rd_T200 l1 x5_1).f3.f2), .int .i64 ((rd_T200 l1 x5_1).f3.f3), .slice A253_7 ((rd_T200 l1 x5_1).f3.f4).length c253_7]] (by rfl) rfl rfl (by (try simp only [List.map_toArray, List.map_cons, List.map_nil]); first | done | rfl | (simp only [List.length_drop, List.length_take]; rfl)) ?_
                with_reducible refine (laws_eqEvent.calls k1 ((rd_T200 l0 x5_1).f0) ((rd_T200 l0 x5_1).f1) ((rd_T200 l0 x5_1).f2) ((rd_T200 l0 x5_1).f3.f0) ((rd_T200 l0 x5_1).f3.f1) ((rd_T200 l0 x5_1).f3.f2) ((rd_T200 l0 x5_1).f3.f3) _ _ ((rd_T200 l0 x5_1).f3.f4) ((rd_T200 l1 x5_1).f0) ((rd_T200 l1 x5_1).f1) ((rd_T200 l1 x5_1).f2) ((rd_T200 l1 x5_1).f3.f0) ((rd_T200 l1 x5_1).f3.f1) ((rd_T200 l1 x5_1).f3.f2) ((rd_T200 l1 x5_1).f3.f3) _ _ ((rd_T200 l1 x5_1).f3.f4) false _ ?side1 ?side2 ?side3 ?side4 A7.out).mono ?_
                (case side1 => repeat (first | exact (Kd.C_below HR252_7.out HB.out) | (with_reducible refine Kd.C_alloc ?_ _) | (with_reducible refine Kd.C_drewN ?_ _) | (with_reducible refine Kd.C_drew ?_)))
                (case side2 => exact HC252_7.out)
                (case side3 => repeat (first | exact (Kd.C_below HR253_7.out HB.out) | (with_reducible refine Kd.C_alloc ?_ _) | (with_reducible refine Kd.C_drewN ?_ _) | (with_reducible refine Kd.C_drew ?_)))
                (case side4 => exact HC253_7.out)
                rintro e w12 ⟨rfl, hb⟩
                refine ⟨_, rfl, ?_⟩
                have n0_ := Aside0.mk (below_step (by repeat (first | (with_reducible first | exact HB.out | apply below_alloc | apply pw_below_drewN | apply below_drew1) | exact HB.out)) hb)
                clear HB
                have HB := n0_
                clear n0_
                (try clear hb)
                (try clear hb2)
                (try clear hk)
                (try clear hi)
                refine hK.out _ _ ⟨((HB.out.cell (World.block_lt_of_cell? w _ hw252_0)).trans hw252_0), ((HB.out.cell (World.block_lt_of_cell? w _ hw252_1)).trans hw252_1), ((HB.out.cell (World.block_lt_of_cell? w _ hw252_2)).trans hw252_2), ((HB.out.cell (World.block_lt_of_cell? w _ hw252_3)).trans hw252_3), ((HB.out.cell (World.block_lt_of_cell? w _ hw252_4)).trans hw252_4), ((HB.out.cell (World.block_lt_of_cell? w _ hw252_5)).trans hw252_5), ((HB.out.cell (World.block_lt_of_cell? w _ hw252_6)).trans hw252_6), ((HB.out.cell (World.block_lt_of_cell? w _ hw252_7)).trans hw252_7), ((HB.out.cell (World.block_lt_of_cell? w _ hw253_0)).trans hw253_0), ((HB.out.cell (World.block_lt_of_cell? w _ hw253_1)).trans hw253_1), ((HB.out.cell (World.block_lt_of_cell? w _ hw253_2)).trans hw253_2), ((HB.out.cell (World.block_lt_of_cell? w _ hw253_3)).trans hw253_3), ((HB.out.cell (World.block_lt_of_cell? w _ hw253_4)).trans hw253_4), ((HB.out.cell (World.block_lt_of_cell? w _ hw253_5)).trans hw253_5), ((HB.out.cell (World.block_lt_of_cell? w _ hw253_6)).trans hw253_6), ((HB.out.cell (World.block_lt_of_cell? w _ hw253_7)).trans hw253_7)⟩ (fun hHeld => ?_)
                clear hK K
                refine norm_ (a' := ?_) ?_ ?_
                rotate_left
                · show Act.put _ (some 25) _ = _
                  simp only [Act.put, List.setIfInBounds_toArray, List.set_cons_zero, List.set_cons_succ, i64_w, i32_w]
                  rfl
                refine pure_ (i := 9) (N := some 26) (v := ?_) (a' := ?_) #[true, true, true, true, true, true, true, true, true, true] rfl rfl (any_of HT_.out (by kernel_rfl)) (fun _ _ _ h => h) (Or.inl ⟨by rfl, ?_⟩) ?_ ?_
                rotate_left
                · intro w'
                  go_simp
                  with_reducible rfl
                rotate_left
                · simp only [Act.put, List.setIfInBounds_toArray, List.set_cons_zero, List.set_cons_succ, i64_w, i32_w]
                  rfl
                refine done_ (done_of HT_.out (by kernel_rfl)) ?_
                try go_wp2
                go_ret
                exact ⟨by first | rfl | (simp [errW_none, errW_some] <;> rfl) | (simp [*, errW_none, errW_some] <;> rfl), by repeat (first | (with_reducible first | exact HB.out | apply below_alloc | apply pw_below_drewN | apply below_drew1) | exact HB.out)⟩
            · rw [if_neg c6] at H
              exact absurd H (by simp)
          · rw [if_neg c5] at H
            exact absurd H (by simp)
        · rw [if_neg c4] at H
          have c4b0 : decide (x5_1 < (l0.length : Int)) = false := decide_eq_false c4
          clear c4
          obtain rfl := Option.some.inj H
          go_wp2
          go_ret
          exact ⟨by first | rfl | (simp [errW_none, errW_some] <;> rfl) | (simp [*, errW_none, errW_some] <;> rfl), by repeat (first | (with_reducible first | exact HB.out | apply below_alloc | apply pw_below_drewN | apply below_drew1) | exact HB.out)⟩
  · rw [if_neg c3] at H
    have c3b0 : ((l0.length : Int) == (l1.length : Int)) = false := beq_eq_false_iff_ne.mpr c3
    have c3b1 : ((l0.length : Int) != (l1.length : Int)) = true := bne_iff_ne.mpr c3
    have c3b2 : (l0.length == l1.length) = false := by first | simpa using c3 | (simp at c3 ⊢; omega)
    obtain rfl := Option.some.inj H
    go_enter Try.func119, Try.ntmps119
    go_wp2
    go_ret
    exact ⟨by first | rfl | (simp [errW_none, errW_some] <;> rfl) | (simp [*, errW_none, errW_some] <;> rfl), by repeat (first | (with_reducible first | exact HB.out | apply below_alloc | apply pw_below_drewN | apply below_drew1) | exact HB.out)⟩
end Go.Proofs.Ytdoclpgciadjaaa.P

namespace Go.Proofs.Ytdoclpgciadjaaa.P
open Go Go.RowKit Go.Proofs.YtdoclpgciadjaaaW.PrintWords
set_option linter.unusedVariables false
def SameG {α : Type} (x l : List α) (i : Nat) : Prop := x.length = l.length ∧ ∀ t, t < i → x[t]? = l[t]?
theorem SameG.zero {α : Type} {x l : List α} (h : x.length = l.length) : SameG x l 0 := ⟨h, fun t ht => absurd ht (Nat.not_lt_zero t)⟩
theorem SameG.all {α : Type} {x l : List α} {i : Nat} (h : SameG x l i) (hi : l.length ≤ i) : x = l := by
  apply List.ext_getElem?
  intro t
  by_cases c : t < l.length
  · exact h.2 t (by omega)
  · rw [List.getElem?_eq_none (by have := h.1; omega), List.getElem?_eq_none (by omega)]
theorem SameG.next {α : Type} {x l : List α} {i : Nat} (h : SameG x l i) {v : α} (hv : l[i]? = some v) : SameG (x.set i v) l (i + 1) := by
  have hi : i < l.length := (List.getElem?_eq_some_iff.1 hv).1
  refine ⟨by rw [List.length_set]; exact h.1, fun t ht => ?_⟩
  rw [List.getElem?_set]
  by_cases e : i = t
  · subst e
    rw [if_pos rfl, if_pos (by have := h.1; omega), hv]
  · rw [if_neg e]
    exact h.2 t (by omega)
theorem getD_some {α : Type} (l : List α) (i : Nat) (z : α) (h : i < l.length) : l[i]? = some (l.getD i z) := by rw [List.getD_eq_getElem?_getD, List.getElem?_eq_getElem h]; rfl
def cFilter (x : S144) : S142 := ⟨x.f0, x.f1, x.f2⟩
theorem toFilter_ev (x : S144) : Ev (fun k => laws_toFilter.f x.f0 x.f1 x.f2) (x.f0, x.f1, x.f2) := Ev.now _
theorem toFilterS_ev (l : List S144) (h : l.length ≤ 10000000) : Ev (fun k => laws_toFilterS.f k l) (l.map cFilter) := by
  have loop : ∀ (d i : Nat) (y : List S142), i + d = l.length → SameG y (l.map cFilter) i → Ev (fun k => laws_toFilterS.l0 k l y (i : Int)) (l.map cFilter) := by
    intro d
    induction d with
    | zero =>
      intro i y hi hy
      refine Ev.step (f := fun _ => some (l.map cFilter)) (fun k => ?_) (Ev.now _)
      simp only [laws_toFilterS.l0]
      rw [if_neg (by omega), hy.all (by rw [List.length_map]; omega)]
    | succ d ih =>
      intro i y hi hy
      have hl := hy.1
      rw [List.length_map] at hl
      have hg : l[i]? = some (rd_T144 l (i : Int)) := getD_some l i _ (by omega)
      have hv : (l.map cFilter)[i]? = some (cFilter (rd_T144 l (i : Int))) := by rw [List.getElem?_map, hg]; rfl
      have one := toFilter_ev (rd_T144 l (i : Int))
      refine Ev.step (fun k => by simp only [laws_toFilterS.l0]; rw [if_pos (by omega), if_pos (by omega)]; try rfl) (Ev.bind one ?_)
      have hw : wrap64 ((i : Int) + 1) = ((i + 1 : Nat) : Int) := by rw [w64 (by omega) (by omega)]; rfl
      simp only [hw]
      exact ev_pos (by omega) (ih (i + 1) _ (by omega) (hy.next hv))
  refine Ev.congr (fun k => ?_) (loop l.length 0 (List.replicate l.length z142) (by omega) (SameG.zero (by simp)))
  unfold laws_toFilterS.f
  rw [if_pos (by omega), if_pos (by omega)]
  rfl
theorem eqFilter_ev (x : S142) : Ev (fun k => laws_eqFilter.f x.f0 x.f1 x.f2 x.f0 x.f1 x.f2) true := by
  refine Ev.congr (fun k => by unfold laws_eqFilter.f; rw [if_neg (by simp), if_pos rfl, if_pos rfl]) (Ev.now _)
theorem eqFilterS_ev (l : List S142) (h : l.length ≤ 10000000) : Ev (fun k => laws_eqFilterS.f k l l) true := by
  have loop : ∀ (d i : Nat), i + d = l.length → Ev (fun k => laws_eqFilterS.l0 k l l (i : Int)) true := by
    intro d
    induction d with
    | zero =>
      intro i hi
      refine Ev.step (f := fun _ => some true) (fun k => ?_) (Ev.now _)
      simp only [laws_eqFilterS.l0]
      rw [if_neg (by omega)]
    | succ d ih =>
      intro i hi
      have one := eqFilter_ev (rd_T142 l (i : Int))
      refine Ev.step (fun k => by simp only [laws_eqFilterS.l0]; rw [if_pos (by omega), if_pos (by omega), if_pos (by omega)]; try rfl) (Ev.bind one ?_)
      have hw : wrap64 ((i : Int) + 1) = ((i + 1 : Nat) : Int) := by rw [w64 (by omega) (by omega)]; rfl
      simp only [hw]
      exact ev_pos trivial (ih (i + 1) (by omega))
  refine Ev.congr (fun k => ?_) (loop l.length 0 (by omega))
  unfold laws_eqFilterS.f
  rw [if_pos rfl]
  rfl
theorem szFilterS_eq (l : List S144) (m : Int) (h : l.length ≤ maxLen) (h0 : 0 ≤ m) (h1 : m ≤ 1048576) : laws_szFilterS.f l m = some (if m < l.length then -1 else m - l.length) := by
  unfold laws_szFilterS.f
  simp only [maxLen] at h
  have e : wrap64 (m - (l.length : Int)) = m - l.length := by unfold wrap64; omega
  rw [e]
  by_cases c : m < (l.length : Int)
  · rw [if_pos (by omega), if_pos c]
  · rw [if_neg (by omega), if_neg c]
def cFrame (x : S46) : S25 := ⟨x.f0, x.f1, x.f2, x.f3, x.f4⟩
theorem toFrameS_ev (l : List S46) (h : l.length ≤ 10000000) (hd : ∀ x ∈ l, x.f4.length ≤ 10000000) : Ev (fun k => laws_toFrameS.f k l) (l.map cFrame) := by
  have loop : ∀ (d i : Nat) (y : List S25), i + d = l.length → SameG y (l.map cFrame) i → Ev (fun k => laws_toFrameS.l0 k l y (i : Int)) (l.map cFrame) := by
    intro d
    induction d with
    | zero =>
      intro i y hi hy
      refine Ev.step (f := fun _ => some (l.map cFrame)) (fun k => ?_) (Ev.now _)
      simp only [laws_toFrameS.l0]
      rw [if_neg (by omega), hy.all (by rw [List.length_map]; omega)]
    | succ d ih =>
      intro i y hi hy
      have hl := hy.1
      rw [List.length_map] at hl
      have hg : l[i]? = some (rd_T46 l (i : Int)) := getD_some l i _ (by omega)
      have hv : (l.map cFrame)[i]? = some (cFrame (rd_T46 l (i : Int))) := by rw [List.getElem?_map, hg]; rfl
      have one := toFrame_ev (rd_T46 l (i : Int)).f0 (rd_T46 l (i : Int)).f1 (rd_T46 l (i : Int)).f2 (rd_T46 l (i : Int)).f3 (rd_T46 l (i : Int)).f4 (hd _ (List.mem_of_getElem? (getD_some l i z46 (by omega))))
      refine Ev.step (fun k => by simp only [laws_toFrameS.l0]; rw [if_pos (by omega), if_pos (by omega)]; try rfl) (Ev.bind one ?_)
      have hw : wrap64 ((i : Int) + 1) = ((i + 1 : Nat) : Int) := by rw [w64 (by omega) (by omega)]; rfl
      simp only [hw]
      exact ev_pos (by omega) (ih (i + 1) _ (by omega) (hy.next hv))
  refine Ev.congr (fun k => ?_) (loop l.length 0 (List.replicate l.length z25) (by omega) (SameG.zero (by simp)))
  unfold laws_toFrameS.f
  rw [if_pos (by omega), if_pos (by omega)]
  rfl
theorem eqFrameS_ev (l : List S25) (h : l.length ≤ 10000000) (hd : ∀ x ∈ l, x.f4.length ≤ 10000000) : Ev (fun k => laws_eqFrameS.f k l l) true := by
  have loop : ∀ (d i : Nat), i + d = l.length → Ev (fun k => laws_eqFrameS.l0 k l l (i : Int)) true := by
    intro d
    induction d with
    | zero =>
      intro i hi
      refine Ev.step (f := fun _ => some true) (fun k => ?_) (Ev.now _)
      simp only [laws_eqFrameS.l0]
      rw [if_neg (by omega)]
    | succ d ih =>
      intro i hi
      have one := eqFrame_ev (rd_T25 l (i : Int)).f0 (rd_T25 l (i : Int)).f1 (rd_T25 l (i : Int)).f2 (rd_T25 l (i : Int)).f3 (rd_T25 l (i : Int)).f4 (hd _ (List.mem_of_getElem? (getD_some l i z25 (by omega))))
      refine Ev.step (fun k => by simp only [laws_eqFrameS.l0]; rw [if_pos (by omega), if_pos (by omega), if_pos (by omega)]; try rfl) (Ev.bind one ?_)
      have hw : wrap64 ((i : Int) + 1) = ((i + 1 : Nat) : Int) := by rw [w64 (by omega) (by omega)]; rfl
      simp only [hw]
      exact ev_pos trivial (ih (i + 1) (by omega))
  refine Ev.congr (fun k => ?_) (loop l.length 0 (by omega))
  unfold laws_eqFrameS.f
  rw [if_pos rfl]
  rfl
theorem szFrame_eqS (e : Bool) (i : Int) (r : Bool) (d : Int) (l : List Int) (m : Int) (h : l.length ≤ maxLen) (h0 : 0 ≤ m) (h1 : m ≤ 1048576) : laws_szFrame.f e i r d l m = some (if m < l.length then -1 else m - l.length) := by
  unfold laws_szFrame.f
  rw [szByteS_eq l m h h0 h1, Option.bind_some]
  by_cases c : m < (l.length : Int)
  · rw [if_pos c, if_pos (by omega)]
  · rw [if_neg c, if_neg (by omega)]
theorem szFrameS_ev (l : List S46) (m : Int) (h : l.length ≤ maxLen) (hd : ∀ x ∈ l, x.f4.length ≤ maxLen) (h0 : 0 ≤ m) (h1 : m ≤ 1048576) : ∃ r, Ev (fun k => laws_szFrameS.f k l m) r ∧ (0 ≤ r → r ≤ m ∧ l.length ≤ m ∧ ∀ x ∈ l, x.f4.length ≤ m) := by
  have loop : ∀ (d i : Nat) (m : Int), l.length ≤ 1048576 → i + d = l.length → 0 ≤ m → m ≤ 1048576 → ∃ r, Ev (fun k => laws_szFrameS.l0 k l m (i : Int)) r ∧ (0 ≤ r → r ≤ m ∧ ∀ t (x : S46), i ≤ t → l[t]? = some x → x.f4.length ≤ m) := by
    intro d
    induction d with
    | zero =>
      intro i m hL hi h0 h1
      refine ⟨m, Ev.step (f := fun _ => some m) (fun k => ?_) (Ev.now _), fun _ => ⟨Int.le_refl _, fun t x ht hx => ?_⟩⟩
      · simp only [laws_szFrameS.l0]
        rw [if_neg (by omega)]
      · rw [List.getElem?_eq_none (by omega)] at hx; cases hx
    | succ d ih =>
      intro i m hL hi h0 h1
      have hg : l[i]? = some (rd_T46 l (i : Int)) := getD_some l i _ (by omega)
      have hm := hd _ (List.mem_of_getElem? hg)
      have one := szFrame_eqS (rd_T46 l (i : Int)).f0 (rd_T46 l (i : Int)).f1 (rd_T46 l (i : Int)).f2 (rd_T46 l (i : Int)).f3 (rd_T46 l (i : Int)).f4 m hm h0 h1
      have hw : wrap64 ((i : Int) + 1) = ((i + 1 : Nat) : Int) := by rw [w64 (by omega) (by omega)]; rfl
      by_cases c : m < ((rd_T46 l (i : Int)).f4.length : Int)
      · refine ⟨-1, Ev.step (f := fun _ => some (-1)) (fun k => ?_) (Ev.now _), fun hr => absurd hr (by omega)⟩
        simp only [laws_szFrameS.l0]
        rw [if_pos (by omega), if_pos (by omega), one, Option.bind_some, if_pos c, if_pos (by omega)]
      · obtain ⟨r, he, hr⟩ := ih (i + 1) (m - ((rd_T46 l (i : Int)).f4.length : Int)) hL (by omega) (by omega) (by omega)
        refine ⟨r, Ev.step (fun k => ?_) he, fun h0 => ?_⟩
        · simp only [laws_szFrameS.l0]
          rw [if_pos (by omega), if_pos (by omega), one, Option.bind_some, if_neg c, if_neg (by omega), hw]
        · obtain ⟨hr0, hr1⟩ := hr h0
          refine ⟨by omega, fun t x ht hx => ?_⟩
          by_cases e : t = i
          · subst e; rw [hg] at hx; cases hx; omega
          · have := hr1 t x (by omega) hx; omega
  by_cases c : m < (l.length : Int)
  · refine ⟨-1, Ev.congr (fun k => ?_) (Ev.now (-1)), fun hr => absurd hr (by omega)⟩
    unfold laws_szFrameS.f
    simp only [maxLen] at h
    have e : wrap64 (m - (l.length : Int)) = m - l.length := by unfold wrap64; omega
    rw [e, if_pos (by omega)]
  · obtain ⟨r, he, hr⟩ := loop l.length 0 (m - l.length) (by omega) (by omega) (by omega) (by omega)
    refine ⟨r, Ev.congr (fun k => ?_) he, fun h0 => ?_⟩
    · unfold laws_szFrameS.f
      have e : wrap64 (m - (l.length : Int)) = m - l.length := by unfold wrap64; omega
      rw [e, if_neg (by omega)]
      rfl
    · obtain ⟨hr0, hr1⟩ := hr h0
      refine ⟨by omega, by omega, fun x hx => ?_⟩
      obtain ⟨t, ht⟩ := List.mem_iff_getElem?.1 hx
      have := hr1 t x (Nat.zero_le _) ht; omega
def cBox (x : S209) : S139 := ⟨x.f0, x.f1, x.f2, ⟨x.f3.f0, x.f3.f1, x.f3.f2, x.f3.f3, x.f3.f4⟩⟩
theorem toBox_ev (x : S209) (h : x.f3.f4.length ≤ 10000000) : Ev (fun k => laws_toBox.f k x.f0 x.f1 x.f2 x.f3.f0 x.f3.f1 x.f3.f2 x.f3.f3 x.f3.f4) (x.f0, x.f1, x.f2, x.f3.f0, x.f3.f1, x.f3.f2, x.f3.f3, x.f3.f4) := by
  unfold laws_toBox.f
  exact Ev.bind (toFrame_ev _ _ _ _ _ h) (Ev.now _)
theorem toBoxS_ev (l : List S209) (h : l.length ≤ 10000000) (hd : ∀ x ∈ l, x.f3.f4.length ≤ 10000000) : Ev (fun k => laws_toBoxS.f k l) (l.map cBox) := by
  have loop : ∀ (d i : Nat) (y : List S139), i + d = l.length → SameG y (l.map cBox) i → Ev (fun k => laws_toBoxS.l0 k l y (i : Int)) (l.map cBox) := by
    intro d
    induction d with
    | zero =>
      intro i y hi hy
      refine Ev.step (f := fun _ => some (l.map cBox)) (fun k => ?_) (Ev.now _)
      simp only [laws_toBoxS.l0]
      rw [if_neg (by omega), hy.all (by rw [List.length_map]; omega)]
    | succ d ih =>
      intro i y hi hy
      have hl := hy.1
      rw [List.length_map] at hl
      have hg : l[i]? = some (rd_T209 l (i : Int)) := getD_some l i _ (by omega)
      have hv : (l.map cBox)[i]? = some (cBox (rd_T209 l (i : Int))) := by rw [List.getElem?_map, hg]; rfl
      have one := toBox_ev (rd_T209 l (i : Int)) (hd _ (List.mem_of_getElem? (getD_some l i z209 (by omega))))
      refine Ev.step (fun k => by simp only [laws_toBoxS.l0]; rw [if_pos (by omega), if_pos (by omega)]; try rfl) (Ev.bind one ?_)
      have hw : wrap64 ((i : Int) + 1) = ((i + 1 : Nat) : Int) := by rw [w64 (by omega) (by omega)]; rfl
      simp only [hw]
      exact ev_pos (by omega) (ih (i + 1) _ (by omega) (hy.next hv))
  refine Ev.congr (fun k => ?_) (loop l.length 0 (List.replicate l.length z139) (by omega) (SameG.zero (by simp)))
  unfold laws_toBoxS.f
  rw [if_pos (by omega), if_pos (by omega)]
  rfl
theorem eqBox_ev (x : S139) (h : x.f3.f4.length ≤ 10000000) : Ev (fun k => laws_eqBox.f k x.f0 x.f1 x.f2 x.f3.f0 x.f3.f1 x.f3.f2 x.f3.f3 x.f3.f4 x.f0 x.f1 x.f2 x.f3.f0 x.f3.f1 x.f3.f2 x.f3.f3 x.f3.f4) true := by
  refine Ev.congr (fun k => by unfold laws_eqBox.f; rw [if_pos rfl, if_pos rfl, if_pos rfl]) (Ev.bind (f := fun _ t => if t = true then some true else some false) (eqFrame_ev _ _ _ _ _ h) (Ev.now _))
theorem eqBoxS_ev (l : List S139) (h : l.length ≤ 10000000) (hd : ∀ x ∈ l, x.f3.f4.length ≤ 10000000) : Ev (fun k => laws_eqBoxS.f k l l) true := by
  have loop : ∀ (d i : Nat), i + d = l.length → Ev (fun k => laws_eqBoxS.l0 k l l (i : Int)) true := by
    intro d
    induction d with
    | zero =>
      intro i hi
      refine Ev.step (f := fun _ => some true) (fun k => ?_) (Ev.now _)
      simp only [laws_eqBoxS.l0]
      rw [if_neg (by omega)]
    | succ d ih =>
      intro i hi
      have one := eqBox_ev (rd_T139 l (i : Int)) (hd _ (List.mem_of_getElem? (getD_some l i z139 (by omega))))
      refine Ev.step (fun k => by simp only [laws_eqBoxS.l0]; rw [if_pos (by omega), if_pos (by omega), if_pos (by omega)]; try rfl) (Ev.bind one ?_)
      have hw : wrap64 ((i : Int) + 1) = ((i + 1 : Nat) : Int) := by rw [w64 (by omega) (by omega)]; rfl
      simp only [hw]
      exact ev_pos trivial (ih (i + 1) (by omega))
  refine Ev.congr (fun k => ?_) (loop l.length 0 (by omega))
  unfold laws_eqBoxS.f
  rw [if_pos rfl]
  rfl
theorem szBox_eq (x : S209) (m : Int) (h : x.f3.f4.length ≤ maxLen) (h0 : 0 ≤ m) (h1 : m ≤ 1048576) : laws_szBox.f x.f0 x.f1 x.f2 x.f3.f0 x.f3.f1 x.f3.f2 x.f3.f3 x.f3.f4 m = some (if m < x.f3.f4.length then -1 else m - x.f3.f4.length) := by
  unfold laws_szBox.f
  rw [szFrame_eqS _ _ _ _ _ m h h0 h1, Option.bind_some]
  by_cases c : m < (x.f3.f4.length : Int)
  · rw [if_pos c, if_pos (by omega)]
  · rw [if_neg c, if_neg (by omega)]
theorem szBoxS_ev (l : List S209) (m : Int) (h : l.length ≤ maxLen) (hd : ∀ x ∈ l, x.f3.f4.length ≤ maxLen) (h0 : 0 ≤ m) (h1 : m ≤ 1048576) : ∃ r, Ev (fun k => laws_szBoxS.f k l m) r ∧ (0 ≤ r → r ≤ m ∧ l.length ≤ m ∧ ∀ x ∈ l, x.f3.f4.length ≤ m) := by
  have loop : ∀ (d i : Nat) (m : Int), l.length ≤ 1048576 → i + d = l.length → 0 ≤ m → m ≤ 1048576 → ∃ r, Ev (fun k => laws_szBoxS.l0 k l m (i : Int)) r ∧ (0 ≤ r → r ≤ m ∧ ∀ t (x : S209), i ≤ t → l[t]? = some x → x.f3.f4.length ≤ m) := by
    intro d
    induction d with
    | zero =>
      intro i m hL hi h0 h1
      refine ⟨m, Ev.step (f := fun _ => some m) (fun k => ?_) (Ev.now _), fun _ => ⟨Int.le_refl _, fun t x ht hx => ?_⟩⟩
      · simp only [laws_szBoxS.l0]
        rw [if_neg (by omega)]
      · rw [List.getElem?_eq_none (by omega)] at hx; cases hx
    | succ d ih =>
      intro i m hL hi h0 h1
      have hg : l[i]? = some (rd_T209 l (i : Int)) := getD_some l i _ (by omega)
      have hm := hd _ (List.mem_of_getElem? hg)
      have one := szBox_eq (rd_T209 l (i : Int)) m hm h0 h1
      have hw : wrap64 ((i : Int) + 1) = ((i + 1 : Nat) : Int) := by rw [w64 (by omega) (by omega)]; rfl
      by_cases c : m < ((rd_T209 l (i : Int)).f3.f4.length : Int)
      · refine ⟨-1, Ev.step (f := fun _ => some (-1)) (fun k => ?_) (Ev.now _), fun hr => absurd hr (by omega)⟩
        simp only [laws_szBoxS.l0]
        rw [if_pos (by omega), if_pos (by omega), one, Option.bind_some, if_pos c, if_pos (by omega)]
      · obtain ⟨r, he, hr⟩ := ih (i + 1) (m - ((rd_T209 l (i : Int)).f3.f4.length : Int)) hL (by omega) (by omega) (by omega)
        refine ⟨r, Ev.step (fun k => ?_) he, fun h0 => ?_⟩
        · simp only [laws_szBoxS.l0]
          rw [if_pos (by omega), if_pos (by omega), one, Option.bind_some, if_neg c, if_neg (by omega), hw]
        · obtain ⟨hr0, hr1⟩ := hr h0
          refine ⟨by omega, fun t x ht hx => ?_⟩
          by_cases e : t = i
          · subst e; rw [hg] at hx; cases hx; omega
          · have := hr1 t x (by omega) hx; omega
  by_cases c : m < (l.length : Int)
  · refine ⟨-1, Ev.congr (fun k => ?_) (Ev.now (-1)), fun hr => absurd hr (by omega)⟩
    unfold laws_szBoxS.f
    simp only [maxLen] at h
    have e : wrap64 (m - (l.length : Int)) = m - l.length := by unfold wrap64; omega
    rw [e, if_pos (by omega)]
  · obtain ⟨r, he, hr⟩ := loop l.length 0 (m - l.length) (by omega) (by omega) (by omega) (by omega)
    refine ⟨r, Ev.congr (fun k => ?_) he, fun h0 => ?_⟩
    · unfold laws_szBoxS.f
      have e : wrap64 (m - (l.length : Int)) = m - l.length := by unfold wrap64; omega
      rw [e, if_neg (by omega)]
      rfl
    · obtain ⟨hr0, hr1⟩ := hr h0
      refine ⟨by omega, by omega, fun x hx => ?_⟩
      obtain ⟨t, ht⟩ := List.mem_iff_getElem?.1 hx
      have := hr1 t x (Nat.zero_le _) ht; omega
def cEvent (x : S212) : S200 := ⟨x.f0, x.f1, x.f2, ⟨x.f3.f0, x.f3.f1, x.f3.f2, x.f3.f3, x.f3.f4⟩⟩
theorem toEvent_ev (x : S212) (h : x.f3.f4.length ≤ 10000000) : Ev (fun k => laws_toEvent.f k x.f0 x.f1 x.f2 x.f3.f0 x.f3.f1 x.f3.f2 x.f3.f3 x.f3.f4) (x.f0, x.f1, x.f2, x.f3.f0, x.f3.f1, x.f3.f2, x.f3.f3, x.f3.f4) := by
  unfold laws_toEvent.f
  exact Ev.bind (toFrame_ev _ _ _ _ _ h) (Ev.now _)
theorem toEventS_ev (l : List S212) (h : l.length ≤ 10000000) (hd : ∀ x ∈ l, x.f3.f4.length ≤ 10000000) : Ev (fun k => laws_toEventS.f k l) (l.map cEvent) := by
  have loop : ∀ (d i : Nat) (y : List S200), i + d = l.length → SameG y (l.map cEvent) i → Ev (fun k => laws_toEventS.l0 k l y (i : Int)) (l.map cEvent) := by
    intro d
    induction d with
    | zero =>
      intro i y hi hy
      refine Ev.step (f := fun _ => some (l.map cEvent)) (fun k => ?_) (Ev.now _)
      simp only [laws_toEventS.l0]
      rw [if_neg (by omega), hy.all (by rw [List.length_map]; omega)]
    | succ d ih =>
      intro i y hi hy
      have hl := hy.1
      rw [List.length_map] at hl
      have hg : l[i]? = some (rd_T212 l (i : Int)) := getD_some l i _ (by omega)
      have hv : (l.map cEvent)[i]? = some (cEvent (rd_T212 l (i : Int))) := by rw [List.getElem?_map, hg]; rfl
      have one := toEvent_ev (rd_T212 l (i : Int)) (hd _ (List.mem_of_getElem? (getD_some l i z212 (by omega))))
      refine Ev.step (fun k => by simp only [laws_toEventS.l0]; rw [if_pos (by omega), if_pos (by omega)]; try rfl) (Ev.bind one ?_)
      have hw : wrap64 ((i : Int) + 1) = ((i + 1 : Nat) : Int) := by rw [w64 (by omega) (by omega)]; rfl
      simp only [hw]
      exact ev_pos (by omega) (ih (i + 1) _ (by omega) (hy.next hv))
  refine Ev.congr (fun k => ?_) (loop l.length 0 (List.replicate l.length z200) (by omega) (SameG.zero (by simp)))
  unfold laws_toEventS.f
  rw [if_pos (by omega), if_pos (by omega)]
  rfl
theorem eqEvent_ev (x : S200) (h : x.f3.f4.length ≤ 10000000) : Ev (fun k => laws_eqEvent.f k x.f0 x.f1 x.f2 x.f3.f0 x.f3.f1 x.f3.f2 x.f3.f3 x.f3.f4 x.f0 x.f1 x.f2 x.f3.f0 x.f3.f1 x.f3.f2 x.f3.f3 x.f3.f4) true := by
  refine Ev.congr (fun k => by unfold laws_eqEvent.f; rw [if_pos rfl, if_pos rfl, if_pos rfl]) (Ev.bind (f := fun _ t => if t = true then some true else some false) (eqFrame_ev _ _ _ _ _ h) (Ev.now _))
theorem eqEventS_ev (l : List S200) (h : l.length ≤ 10000000) (hd : ∀ x ∈ l, x.f3.f4.length ≤ 10000000) : Ev (fun k => laws_eqEventS.f k l l) true := by
  have loop : ∀ (d i : Nat), i + d = l.length → Ev (fun k => laws_eqEventS.l0 k l l (i : Int)) true := by
    intro d
    induction d with
    | zero =>
      intro i hi
      refine Ev.step (f := fun _ => some true) (fun k => ?_) (Ev.now _)
      simp only [laws_eqEventS.l0]
      rw [if_neg (by omega)]
    | succ d ih =>
      intro i hi
      have one := eqEvent_ev (rd_T200 l (i : Int)) (hd _ (List.mem_of_getElem? (getD_some l i z200 (by omega))))
      refine Ev.step (fun k => by simp only [laws_eqEventS.l0]; rw [if_pos (by omega), if_pos (by omega), if_pos (by omega)]; try rfl) (Ev.bind one ?_)
      have hw : wrap64 ((i : Int) + 1) = ((i + 1 : Nat) : Int) := by rw [w64 (by omega) (by omega)]; rfl
      simp only [hw]
      exact ev_pos trivial (ih (i + 1) (by omega))
  refine Ev.congr (fun k => ?_) (loop l.length 0 (by omega))
  unfold laws_eqEventS.f
  rw [if_pos rfl]
  rfl
theorem szEvent_eq (x : S212) (m : Int) (h : x.f3.f4.length ≤ maxLen) (h0 : 0 ≤ m) (h1 : m ≤ 1048576) : laws_szEvent.f x.f0 x.f1 x.f2 x.f3.f0 x.f3.f1 x.f3.f2 x.f3.f3 x.f3.f4 m = some (if m < x.f3.f4.length then -1 else m - x.f3.f4.length) := by
  unfold laws_szEvent.f
  rw [szFrame_eqS _ _ _ _ _ m h h0 h1, Option.bind_some]
  by_cases c : m < (x.f3.f4.length : Int)
  · rw [if_pos c, if_pos (by omega)]
  · rw [if_neg c, if_neg (by omega)]
theorem szEventS_ev (l : List S212) (m : Int) (h : l.length ≤ maxLen) (hd : ∀ x ∈ l, x.f3.f4.length ≤ maxLen) (h0 : 0 ≤ m) (h1 : m ≤ 1048576) : ∃ r, Ev (fun k => laws_szEventS.f k l m) r ∧ (0 ≤ r → r ≤ m ∧ l.length ≤ m ∧ ∀ x ∈ l, x.f3.f4.length ≤ m) := by
  have loop : ∀ (d i : Nat) (m : Int), l.length ≤ 1048576 → i + d = l.length → 0 ≤ m → m ≤ 1048576 → ∃ r, Ev (fun k => laws_szEventS.l0 k l m (i : Int)) r ∧ (0 ≤ r → r ≤ m ∧ ∀ t (x : S212), i ≤ t → l[t]? = some x → x.f3.f4.length ≤ m) := by
    intro d
    induction d with
    | zero =>
      intro i m hL hi h0 h1
      refine ⟨m, Ev.step (f := fun _ => some m) (fun k => ?_) (Ev.now _), fun _ => ⟨Int.le_refl _, fun t x ht hx => ?_⟩⟩
      · simp only [laws_szEventS.l0]
        rw [if_neg (by omega)]
      · rw [List.getElem?_eq_none (by omega)] at hx; cases hx
    | succ d ih =>
      intro i m hL hi h0 h1
      have hg : l[i]? = some (rd_T212 l (i : Int)) := getD_some l i _ (by omega)
      have hm := hd _ (List.mem_of_getElem? hg)
      have one := szEvent_eq (rd_T212 l (i : Int)) m hm h0 h1
      have hw : wrap64 ((i : Int) + 1) = ((i + 1 : Nat) : Int) := by rw [w64 (by omega) (by omega)]; rfl
      by_cases c : m < ((rd_T212 l (i : Int)).f3.f4.length : Int)
      · refine ⟨-1, Ev.step (f := fun _ => some (-1)) (fun k => ?_) (Ev.now _), fun hr => absurd hr (by omega)⟩
        simp only [laws_szEventS.l0]
        rw [if_pos (by omega), if_pos (by omega), one, Option.bind_some, if_pos c, if_pos (by omega)]
      · obtain ⟨r, he, hr⟩ := ih (i + 1) (m - ((rd_T212 l (i : Int)).f3.f4.length : Int)) hL (by omega) (by omega) (by omega)
        refine ⟨r, Ev.step (fun k => ?_) he, fun h0 => ?_⟩
        · simp only [laws_szEventS.l0]
          rw [if_pos (by omega), if_pos (by omega), one, Option.bind_some, if_neg c, if_neg (by omega), hw]
        · obtain ⟨hr0, hr1⟩ := hr h0
          refine ⟨by omega, fun t x ht hx => ?_⟩
          by_cases e : t = i
          · subst e; rw [hg] at hx; cases hx; omega
          · have := hr1 t x (by omega) hx; omega
  by_cases c : m < (l.length : Int)
  · refine ⟨-1, Ev.congr (fun k => ?_) (Ev.now (-1)), fun hr => absurd hr (by omega)⟩
    unfold laws_szEventS.f
    simp only [maxLen] at h
    have e : wrap64 (m - (l.length : Int)) = m - l.length := by unfold wrap64; omega
    rw [e, if_pos (by omega)]
  · obtain ⟨r, he, hr⟩ := loop l.length 0 (m - l.length) (by omega) (by omega) (by omega) (by omega)
    refine ⟨r, Ev.congr (fun k => ?_) he, fun h0 => ?_⟩
    · unfold laws_szEventS.f
      have e : wrap64 (m - (l.length : Int)) = m - l.length := by unfold wrap64; omega
      rw [e, if_neg (by omega)]
      rfl
    · obtain ⟨hr0, hr1⟩ := hr h0
      refine ⟨by omega, by omega, fun x hx => ?_⟩
      obtain ⟨t, ht⟩ := List.mem_iff_getElem?.1 hx
      have := hr1 t x (Nat.zero_le _) ht; omega
end Go.Proofs.Ytdoclpgciadjaaa.P

namespace Go.Proofs.Ytdoclpgciadjaaa.P
open Go.RowKit Go.Proofs.YtdoclpgciadjaaaW.PrintWords Go.Proofs.YtdoclpgciadjaaaW.PrintLast Go.Proofs.YtdoclpgciadjaaaW.PrintMore
set_option linter.unusedVariables false
set_option linter.unusedSimpArgs false
def laws_toConfig.f (a0_0 : Int) (a0_1 : Int) (a0_2 : Int) (a0_3 : Int) : Option (Int × Int × Int × Int) := some (a0_0, a0_1, a0_2, a0_3)
set_option maxHeartbeats 8000000 in
set_option maxRecDepth 100000 in
theorem laws_toConfig.calls (a0_0 : Int) (a0_1 : Int) (a0_2 : Int) (a0_3 : Int) (r1 : Int) (r2 : Int) (r3 : Int) (r4 : Int) (w : World) (h : laws_toConfig.f a0_0 a0_1 a0_2 a0_3 = some (r1, r2, r3, r4)) :
    Calls Try.prog 53 #[.agg #[.int .i64 a0_0, .int .i64 a0_1, .int .i64 a0_2, .int .i64 a0_3]] w fun e w' => e = .returned (.agg #[.int .i64 r1, .int .i64 r2, .int .i64 r3, .int .i64 r4]) ∧ Below w.heap.size w w' := by
  have hu59 := Try.underlying59
  have hu70 := Try.underlying70
  have HB := Aside0.mk (Below.refl w.heap.size w)
  have H : (some (a0_0, a0_1, a0_2, a0_3)) = some (r1, r2, r3, r4) := h
  clear h
  simp only [Option.some.injEq, Prod.mk.injEq] at H
  obtain ⟨rfl, rfl, rfl, rfl⟩ := H
  go_enter Try.func53, Try.ntmps53
  go_wp2_with (first | ((with_reducible refine gate_dst (N := 1) rfl ?_); refine box_event ?hg (N := 1) ?hd (cs := #[.int .i64 a0_0, .int .i64 a0_1, .int .i64 a0_2, .int .i64 a0_3]) (t := 59) ?hr ?_; (case hd => rfl); (case hg => rfl); (case hr => first | (go_simp; done) | (go_simp; rfl)); intro gb122 hg w2 hbox hb; have n0_ := Aside0.mk (below_step (by repeat (first | (with_reducible first | exact HB.out | apply below_alloc | apply pw_below_drewN | apply below_drew1) | exact HB.out)) hb); have n1_ := Aside0.mk (hbox); have n2_ := Aside0.mk ((by rw [hg]; exact (below_size (by repeat (first | (with_reducible first | exact HB.out | apply below_alloc | apply pw_below_drewN | apply below_drew1) | exact HB.out))) : w.heap.size ≤ gb122)); have n3_ := Aside0.mk ((by rw [hg]; exact (below_size (by repeat (first | (with_reducible first | exact HB.out | apply below_alloc | apply pw_below_drewN | apply below_drew1) | exact HB.out))) : w.heap.size ≤ gb122)); clear HB; have HB := n0_; have BK122 := n1_; have GW122 := n2_; have GE122 := n3_; clear n0_ n1_ n2_ n3_; clear hb hbox hg) | ((with_reducible refine gate_dst (N := 2) rfl ?_); refine box_event ?hg (N := 2) ?hd (cs := #[.int .i64 0, .int .i64 0, .int .i64 0, .int .i64 0]) (t := 70) ?hr ?_; (case hd => rfl); (case hg => rfl); (case hr => first | (go_simp; done) | (go_simp; rfl)); intro gb123 hg w3 hbox hb; have n0_ := Aside0.mk (blk_below (g := gb122) (o := .cells #[.int .i64 a0_0, .int .i64 a0_1, .int .i64 a0_2, .int .i64 a0_3] 59 (0, 0)) (by (with_reducible repeat (first | refine blk_drewN ?_ _ | refine blk_drew ?_ | refine blk_alloc ?_ _)); exact BK122.out) hb); have n1_ := Aside0.mk (below_step (by repeat (first | (with_reducible first | exact HB.out | apply below_alloc | apply pw_below_drewN | apply below_drew1 | refine below_set ?_ GE122.out) | exact HB.out)) hb); have n2_ := Aside0.mk (hbox); have n3_ := Aside0.mk ((by rw [hg]; exact (below_size (by repeat (first | (with_reducible first | exact HB.out | apply below_alloc | apply pw_below_drewN | apply below_drew1 | refine below_set ?_ GE122.out) | exact HB.out))) : w.heap.size ≤ gb123)); have n4_ := Aside0.mk ((by rw [hg]; exact (below_size (by repeat (first | (with_reducible first | exact HB.out | apply below_alloc | apply pw_below_drewN | apply below_drew1 | refine below_set ?_ GE122.out) | exact HB.out))) : w.heap.size ≤ gb123)); have n5_ := Aside0.mk ((by rw [hg]; exact Nat.ne_of_lt (blk_lt (g := gb122) (o := .cells #[.int .i64 a0_0, .int .i64 a0_1, .int .i64 a0_2, .int .i64 a0_3] 59 (0, 0)) (by (with_reducible repeat (first | refine blk_drewN ?_ _ | refine blk_drew ?_ | refine blk_alloc ?_ _)); exact BK122.out)) : gb122 ≠ gb123)); have n6_ := Aside0.mk ((by rw [hg]; exact Nat.ne_of_gt (blk_lt (g := gb122) (o := .cells #[.int .i64 a0_0, .int .i64 a0_1, .int .i64 a0_2, .int .i64 a0_3] 59 (0, 0)) (by (with_reducible repeat (first | refine blk_drewN ?_ _ | refine blk_drew ?_ | refine blk_alloc ?_ _)); exact BK122.out)) : gb123 ≠ gb122)); clear BK122; clear HB; have BK122 := n0_; have HB := n1_; have BK123 := n2_; have GW123 := n3_; have GE123 := n4_; have NB122_123 := n5_; have NB123_122 := n6_; clear n0_ n1_ n2_ n3_ n4_ n5_ n6_; clear hb hbox hg) | ((with_reducible refine gate_dst (N := 3) rfl ?_); refine box_event ?hg (N := 3) ?hd (cs := #[.int .i64 0, .int .i64 0, .int .i64 0, .int .i64 0]) (t := 70) ?hr ?_; (case hd => rfl); (case hg => rfl); (case hr => first | (go_simp; done) | (go_simp; rfl)); intro gb124 hg w4 hbox hb; have n0_ := Aside0.mk (blk_below (g := gb122) (o := .cells #[.int .i64 a0_0, .int .i64 a0_1, .int .i64 a0_2, .int .i64 a0_3] 59 (0, 0)) (by (with_reducible repeat (first | refine blk_drewN ?_ _ | refine blk_drew ?_ | refine blk_alloc ?_ _)); exact BK122.out) hb); have n1_ := Aside0.mk (blk_below (g := gb123) (o := .cells #[.int .i64 0, .int .i64 0, .int .i64 0, .int .i64 0] 70 (0, 0)) (by (with_reducible repeat (first | refine blk_drewN ?_ _ | refine blk_drew ?_ | refine blk_alloc ?_ _)); exact BK123.out) hb); have n2_ := Aside0.mk (below_step (by repeat (first | (with_reducible first | exact HB.out | apply below_alloc | apply pw_below_drewN | apply below_drew1 | refine below_set ?_ GE122.out | refine below_set ?_ GE123.out) | exact HB.out)) hb); have n3_ := Aside0.mk (hbox); have n4_ := Aside0.mk ((by rw [hg]; exact (below_size (by repeat (first | (with_reducible first | exact HB.out | apply below_alloc | apply pw_below_drewN | apply below_drew1 | refine below_set ?_ GE122.out | refine below_set ?_ GE123.out) | exact HB.out))) : w.heap.size ≤ gb124)); have n5_ := Aside0.mk ((by rw [hg]; exact (below_size (by repeat (first | (with_reducible first | exact HB.out | apply below_alloc | apply pw_below_drewN | apply below_drew1 | refine below_set ?_ GE122.out | refine below_set ?_ GE123.out) | exact HB.out))) : w.heap.size ≤ gb124)); have n6_ := Aside0.mk ((by rw [hg]; exact Nat.ne_of_lt (blk_lt (g := gb122) (o := .cells #[.int .i64 a0_0, .int .i64 a0_1, .int .i64 a0_2, .int .i64 a0_3] 59 (0, 0)) (by (with_reducible repeat (first | refine blk_drewN ?_ _ | refine blk_drew ?_ | refine blk_alloc ?_ _)); exact BK122.out)) : gb122 ≠ gb124)); have n7_ := Aside0.mk ((by rw [hg]; exact Nat.ne_of_gt (blk_lt (g := gb122) (o := .cells #[.int .i64 a0_0, .int .i64 a0_1, .int .i64 a0_2, .int .i64 a0_3] 59 (0, 0)) (by (with_reducible repeat (first | refine blk_drewN ?_ _ | refine blk_drew ?_ | refine blk_alloc ?_ _)); exact BK122.out)) : gb124 ≠ gb122)); have n8_ := Aside0.mk ((by rw [hg]; exact Nat.ne_of_lt (blk_lt (g := gb123) (o := .cells #[.int .i64 0, .int .i64 0, .int .i64 0, .int .i64 0] 70 (0, 0)) (by (with_reducible repeat (first | refine blk_drewN ?_ _ | refine blk_drew ?_ | refine blk_alloc ?_ _)); exact BK123.out)) : gb123 ≠ gb124)); have n9_ := Aside0.mk ((by rw [hg]; exact Nat.ne_of_gt (blk_lt (g := gb123) (o := .cells #[.int .i64 0, .int .i64 0, .int .i64 0, .int .i64 0] 70 (0, 0)) (by (with_reducible repeat (first | refine blk_drewN ?_ _ | refine blk_drew ?_ | refine blk_alloc ?_ _)); exact BK123.out)) : gb124 ≠ gb123)); clear BK122; clear BK123; clear HB; have BK122 := n0_; have BK123 := n1_; have HB := n2_; have BK124 := n3_; have GW124 := n4_; have GE124 := n5_; have NB122_124 := n6_; have NB124_122 := n7_; have NB123_124 := n8_; have NB124_123 := n9_; clear n0_ n1_ n2_ n3_ n4_ n5_ n6_ n7_ n8_ n9_; clear hb hbox hg; have hnb5 := NB122_123.out; have hnc5 := NB123_122.out; have hnb6 := NB122_124.out; have hnc6 := NB124_122.out; have hcz7_0 : w4.cell? ⟨gb122, 0, none⟩ = some (.int .i64 a0_0) := (blk_cell BK122.out 0).trans rfl; have hcz7_1 : w4.cell? ⟨gb122, 1, none⟩ = some (.int .i64 a0_1) := (blk_cell BK122.out 1).trans rfl; have hcz7_2 : w4.cell? ⟨gb122, 2, none⟩ = some (.int .i64 a0_2) := (blk_cell BK122.out 2).trans rfl; have hcz7_3 : w4.cell? ⟨gb122, 3, none⟩ = some (.int .i64 a0_3) := (blk_cell BK122.out 3).trans rfl; have hfz7_0 := blk_frozen BK122.out 0; have hfz7_1 := blk_frozen BK122.out 1; have hfz7_2 := blk_frozen BK122.out 2; have hfz7_3 := blk_frozen BK122.out 3; have hnb8 := NB124_123.out; have hnc8 := NB123_124.out; have hcz9_0 : w4.cell? ⟨gb124, 0, none⟩ = some (.int .i64 0) := (blk_cell BK124.out 0).trans rfl; have hcz9_1 : w4.cell? ⟨gb124, 1, none⟩ = some (.int .i64 0) := (blk_cell BK124.out 1).trans rfl; have hcz9_2 : w4.cell? ⟨gb124, 2, none⟩ = some (.int .i64 0) := (blk_cell BK124.out 2).trans rfl; have hcz9_3 : w4.cell? ⟨gb124, 3, none⟩ = some (.int .i64 0) := (blk_cell BK124.out 3).trans rfl; have hfz9_0 := blk_frozen BK124.out 0; have hfz9_1 := blk_frozen BK124.out 1; have hfz9_2 := blk_frozen BK124.out 2; have hfz9_3 := blk_frozen BK124.out 3; have hcz10_0 : w4.cell? ⟨gb123, 0, none⟩ = some (.int .i64 0) := (blk_cell BK123.out 0).trans rfl; have hcz10_1 : w4.cell? ⟨gb123, 1, none⟩ = some (.int .i64 0) := (blk_cell BK123.out 1).trans rfl; have hcz10_2 : w4.cell? ⟨gb123, 2, none⟩ = some (.int .i64 0) := (blk_cell BK123.out 2).trans rfl; have hcz10_3 : w4.cell? ⟨gb123, 3, none⟩ = some (.int .i64 0) := (blk_cell BK123.out 3).trans rfl; have hfz10_0 := blk_frozen BK123.out 0; have hfz10_1 := blk_frozen BK123.out 1; have hfz10_2 := blk_frozen BK123.out 2; have hfz10_3 := blk_frozen BK123.out 3))
  refine bodyPost_ret (results_cell_row rfl _ _ gb123 70 #[.int .i64 a0_0, .int .i64 a0_1, .int .i64 a0_2, .int .i64 a0_3] (0, 0) _ rfl (by (with_reducible repeat (first | refine blk_drewN ?_ _ | refine blk_drew ?_ | refine blk_alloc ?_ _)); refine blk_put (cs := #[.int .i64 a0_0, .int .i64 a0_1, .int .i64 a0_2, .int .i64 0]) ?_ 3 _ rfl; (with_reducible repeat (first | refine blk_drewN ?_ _ | refine blk_drew ?_ | refine blk_alloc ?_ _)); refine blk_put (cs := #[.int .i64 a0_0, .int .i64 a0_1, .int .i64 0, .int .i64 0]) ?_ 2 _ rfl; (with_reducible repeat (first | refine blk_drewN ?_ _ | refine blk_drew ?_ | refine blk_alloc ?_ _)); refine blk_put (cs := #[.int .i64 a0_0, .int .i64 0, .int .i64 0, .int .i64 0]) ?_ 1 _ rfl; (with_reducible repeat (first | refine blk_drewN ?_ _ | refine blk_drew ?_ | refine blk_alloc ?_ _)); refine blk_put (cs := #[.int .i64 0, .int .i64 0, .int .i64 0, .int .i64 0]) ?_ 0 _ rfl; (with_reducible repeat (first | refine blk_drewN ?_ _ | refine blk_drew ?_ | refine blk_alloc ?_ _)); refine blk_far ?_ NB123_124.out _; (with_reducible repeat (first | refine blk_drewN ?_ _ | refine blk_drew ?_ | refine blk_alloc ?_ _)); refine blk_far ?_ NB123_124.out _; (with_reducible repeat (first | refine blk_drewN ?_ _ | refine blk_drew ?_ | refine blk_alloc ?_ _)); refine blk_far ?_ NB123_124.out _; (with_reducible repeat (first | refine blk_drewN ?_ _ | refine blk_drew ?_ | refine blk_alloc ?_ _)); refine blk_far ?_ NB123_124.out _; (with_reducible repeat (first | refine blk_drewN ?_ _ | refine blk_drew ?_ | refine blk_alloc ?_ _)); exact BK123.out) Try.underlying70 rfl (by kernel_rfl)) rfl ?_
  exact ⟨by first | rfl | (simp [errW_none, errW_some] <;> rfl) | (simp [*, errW_none, errW_some] <;> rfl), by repeat (first | (with_reducible first | exact HB.out | apply below_alloc | apply pw_below_drewN | apply below_drew1 | refine below_set ?_ GE122.out | refine below_set ?_ GE123.out | refine below_set ?_ GE124.out) | exact HB.out)⟩
end Go.Proofs.Ytdoclpgciadjaaa.P
