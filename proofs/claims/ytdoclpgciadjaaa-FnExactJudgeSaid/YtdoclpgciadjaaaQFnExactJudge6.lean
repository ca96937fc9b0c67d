import Derived.Test.YtdoclpgciadjaaaQFnExactJudge0
import Derived.Test.YtdoclpgciadjaaaQFnExactJudge4
import Derived.Test.YtdoclpgciadjaaaQFnExactJudge5

namespace Go.Proofs.Ytdoclpgciadjaaa.P
open Go.RowKit Go.Proofs.YtdoclpgciadjaaaW.PrintWords Go.Proofs.YtdoclpgciadjaaaW.PrintLast Go.Proofs.YtdoclpgciadjaaaW.PrintMore
attribute [local go_sem] max2_int min2_int max_two min_two max_three min_three max_four min_four
set_option linter.unusedVariables false
set_option linter.unusedSimpArgs false

/-! ### laws_FnExactJudge: function 5 -/
def laws_FnExactJudge.f (k : Nat) (a0 : ByteArray) : Option (Bool) := if (a0.size : Int) > 1048576 then (some true) else ((spec_Judge.f k a0).bind fun bt295 => ((impl_Judge.f a0).bind fun bt300 => ((laws_eqVerdict.f bt300.1 bt300.2.1 bt300.2.2.1 bt300.2.2.2 bt295.1 bt295.2.1 bt295.2.2.1 bt295.2.2.2).bind fun t305 => (if t305 = true then (some true) else (some false)))))
theorem laws_FnExactJudge.mono : ∀ a0 k, LeO (laws_FnExactJudge.f k a0) (laws_FnExactJudge.f (k + 1) a0) := by
  intro a0 k
  unfold laws_FnExactJudge.f
  repeat' first
      | (with_reducible exact spec_Judge.mono _ _)
      | (with_reducible exact LeO.refl _)
      | (with_reducible exact LeO.none _)
      | (with_reducible refine LeO.ite ?_ ?_)
      | (with_reducible refine LeO.bind ?_ (fun _ => ?_))
      | exact spec_Judge.mono _ _
      | exact LeO.none _
      | refine LeO.ite ?_ ?_
      | refine LeO.bind ?_ (fun _ => ?_)
set_option maxHeartbeats 8000000 in
set_option maxRecDepth 100000 in
theorem laws_FnExactJudge.calls (k : Nat) (a0 : ByteArray) (r : Bool) (w : World) (h : laws_FnExactJudge.f k a0 = some r) :
    Calls Try.prog 5 #[.string a0] w fun e w' => e = .returned (.bool r) ∧ Below w.heap.size w w' := by
  have hu32 := Try.underlying32
  have HB := Aside0.mk (Below.refl w.heap.size w)
  have H : (if (a0.size : Int) > 1048576 then (some true) else ((spec_Judge.f k a0).bind fun bt295 => ((impl_Judge.f a0).bind fun bt300 => ((laws_eqVerdict.f bt300.1 bt300.2.1 bt300.2.2.1 bt300.2.2.2 bt295.1 bt295.2.1 bt295.2.2.1 bt295.2.2.2).bind fun t305 => (if t305 = true then (some true) else (some false)))))) = some r := h
  clear h
  by_cases c2 : (a0.size : Int) > 1048576
  · rw [if_pos c2] at H
    have c2b0 : decide (1048576 < (a0.size : Int)) = true := decide_eq_true c2
    have c2b1 : decide (1048576 < a0.size) = true := decide_eq_true (by omega)
    clear c2
    obtain rfl := Option.some.inj H
    go_enter Try.func5, Try.ntmps5
    go_wp2
    go_ret
    exact ⟨by first | rfl | (simp [errW_none, errW_some] <;> rfl) | (simp [*, errW_none, errW_some] <;> rfl), by repeat (first | (with_reducible first | exact HB.out | apply below_alloc | apply pw_below_drewN | apply below_drew1) | exact HB.out)⟩
  · rw [if_neg c2] at H
    have c2b0 : decide (1048576 < (a0.size : Int)) = false := decide_eq_false c2
    have c2b1 : decide (1048576 < a0.size) = false := decide_eq_false (by omega)
    clear c2
    replace H := Option.bind_eq_some_iff.mp H
    obtain ⟨⟨t295, t296, t297, t298⟩, A30, H⟩ := H
    replace H : ((impl_Judge.f a0).bind fun bt300 => ((laws_eqVerdict.f bt300.1 bt300.2.1 bt300.2.2.1 bt300.2.2.2 t295 t296 t297 t298).bind fun t305 => (if t305 = true then (some true) else (some false)))) = some r := H
    have A3 := Aside0.mk A30
    clear A30
    replace H := Option.bind_eq_some_iff.mp H
    obtain ⟨⟨t300, t301, t302, t303⟩, A40, H⟩ := H
    replace H : ((laws_eqVerdict.f t300 t301 t302 t303 t295 t296 t297 t298).bind fun t305 => (if t305 = true then (some true) else (some false))) = some r := H
    have A4 := Aside0.mk A40
    clear A40
    replace H := Option.bind_eq_some_iff.mp H
    obtain ⟨t305, A50, H⟩ := H
    replace H : (if t305 = true then (some true) else (some false)) = some r := H
    have A5 := Aside0.mk A50
    clear A50
    by_cases c6 : t305 = true
    · subst c6
      have H1 : (some true) = some r := by rw [if_pos rfl] at H; exact H
      clear H
      have H := H1
      clear H1
      obtain rfl := Option.some.inj H
      go_enter Try.func5, Try.ntmps5
      go_wp2_with (first | ((with_reducible refine gate_callee (f := 29) rfl ?_); refine goesL_ (some 9) rfl rfl Try.func29 (by kernel_rfl) rfl #[.string a0] rfl (by (try simp only [List.map_toArray, List.map_cons, List.map_nil]); first | done | rfl | (simp only [List.length_drop, List.length_take]; rfl)) ?_; (with_reducible refine (spec_Judge.calls k a0 t295 t296 t297 t298 _ A3.out).mono ?_); rintro e w7 ⟨rfl, hb⟩; refine ⟨_, rfl, ?_⟩; have n0_ := Aside0.mk (below_step (by repeat (first | (with_reducible first | exact HB.out | apply below_alloc | apply pw_below_drewN | apply below_drew1) | exact HB.out)) hb); clear HB; have HB := n0_; clear n0_; (try clear hb); (try clear hb2); (try clear hk); (try clear hi)) | ((with_reducible refine gate_dst (N := 3) rfl ?_); refine box_event ?hg (N := 3) ?hd (cs := #[.int .i64 0, .int .i64 0, .bool false, .bool false]) (t := 32) ?hr ?_; (case hd => rfl); (case hg => rfl); (case hr => first | (go_simp; done) | (go_simp; rfl)); intro gb299 hg w8 hbox hb; have n0_ := Aside0.mk (below_step (by repeat (first | (with_reducible first | exact HB.out | apply below_alloc | apply pw_below_drewN | apply below_drew1) | exact HB.out)) hb); have n1_ := Aside0.mk (hbox); have n2_ := Aside0.mk ((by rw [hg]; exact (below_size (by repeat (first | (with_reducible first | exact HB.out | apply below_alloc | apply pw_below_drewN | apply below_drew1) | exact HB.out))) : w.heap.size ≤ gb299)); have n3_ := Aside0.mk ((by rw [hg]; exact (below_size (by repeat (first | (with_reducible first | exact HB.out | apply below_alloc | apply pw_below_drewN | apply below_drew1) | exact HB.out))) : w.heap.size ≤ gb299)); clear HB; have HB := n0_; have BK299 := n1_; have GW299 := n2_; have GE299 := n3_; clear n0_ n1_ n2_ n3_; clear hb hbox hg; have hcz9_0 : w8.cell? ⟨gb299, 0, none⟩ = some (.int .i64 0) := (blk_cell BK299.out 0).trans rfl; have hcz9_1 : w8.cell? ⟨gb299, 1, none⟩ = some (.int .i64 0) := (blk_cell BK299.out 1).trans rfl; have hcz9_2 : w8.cell? ⟨gb299, 2, none⟩ = some (.bool false) := (blk_cell BK299.out 2).trans rfl; have hcz9_3 : w8.cell? ⟨gb299, 3, none⟩ = some (.bool false) := (blk_cell BK299.out 3).trans rfl; have hfz9_0 := blk_frozen BK299.out 0; have hfz9_1 := blk_frozen BK299.out 1; have hfz9_2 := blk_frozen BK299.out 2; have hfz9_3 := blk_frozen BK299.out 3) | ((with_reducible refine gate_callee (f := 19) rfl ?_); refine goesL_ (some 11) rfl rfl Try.func19 (by kernel_rfl) rfl #[.string a0] rfl (by (try simp only [List.map_toArray, List.map_cons, List.map_nil]); first | done | rfl | (simp only [List.length_drop, List.length_take]; rfl)) ?_; (with_reducible refine (impl_Judge.calls a0 t300 t301 t302 t303 _ A4.out).mono ?_); rintro e w10 ⟨rfl, hb⟩; refine ⟨_, rfl, ?_⟩; have n0_ := Aside0.mk (blk_below (g := gb299) (o := .cells #[.int .i64 t295, .int .i64 t296, .bool t297, .bool t298] 32 (0, 0)) (by (with_reducible repeat (first | refine blk_drewN ?_ _ | refine blk_drew ?_ | refine blk_alloc ?_ _)); refine blk_put (cs := #[.int .i64 t295, .int .i64 t296, .bool t297, .bool false]) ?_ 3 _ rfl; (with_reducible repeat (first | refine blk_drewN ?_ _ | refine blk_drew ?_ | refine blk_alloc ?_ _)); refine blk_put (cs := #[.int .i64 t295, .int .i64 t296, .bool false, .bool false]) ?_ 2 _ rfl; (with_reducible repeat (first | refine blk_drewN ?_ _ | refine blk_drew ?_ | refine blk_alloc ?_ _)); refine blk_put (cs := #[.int .i64 t295, .int .i64 0, .bool false, .bool false]) ?_ 1 _ rfl; (with_reducible repeat (first | refine blk_drewN ?_ _ | refine blk_drew ?_ | refine blk_alloc ?_ _)); refine blk_put (cs := #[.int .i64 0, .int .i64 0, .bool false, .bool false]) ?_ 0 _ rfl; (with_reducible repeat (first | refine blk_drewN ?_ _ | refine blk_drew ?_ | refine blk_alloc ?_ _)); exact BK299.out) hb); have n1_ := Aside0.mk (below_step (by repeat (first | (with_reducible first | exact HB.out | apply below_alloc | apply pw_below_drewN | apply below_drew1 | refine below_set ?_ GE299.out) | exact HB.out)) hb); clear BK299; clear HB; have BK299 := n0_; have HB := n1_; clear n0_ n1_; (try clear hb); (try clear hb2); (try clear hk); (try clear hi)) | ((with_reducible refine gate_dst (N := 4) rfl ?_); refine box_event ?hg (N := 4) ?hd (cs := #[.int .i64 0, .int .i64 0, .bool false, .bool false]) (t := 32) ?hr ?_; (case hd => rfl); (case hg => rfl); (case hr => first | (go_simp; done) | (go_simp; rfl)); intro gb304 hg w11 hbox hb; have n0_ := Aside0.mk (blk_below (g := gb299) (o := .cells #[.int .i64 t295, .int .i64 t296, .bool t297, .bool t298] 32 (0, 0)) (by (with_reducible repeat (first | refine blk_drewN ?_ _ | refine blk_drew ?_ | refine blk_alloc ?_ _)); exact BK299.out) hb); have n1_ := Aside0.mk (below_step (by repeat (first | (with_reducible first | exact HB.out | apply below_alloc | apply pw_below_drewN | apply below_drew1 | refine below_set ?_ GE299.out) | exact HB.out)) hb); have n2_ := Aside0.mk (hbox); have n3_ := Aside0.mk ((by rw [hg]; exact (below_size (by repeat (first | (with_reducible first | exact HB.out | apply below_alloc | apply pw_below_drewN | apply below_drew1 | refine below_set ?_ GE299.out) | exact HB.out))) : w.heap.size ≤ gb304)); have n4_ := Aside0.mk ((by rw [hg]; exact (below_size (by repeat (first | (with_reducible first | exact HB.out | apply below_alloc | apply pw_below_drewN | apply below_drew1 | refine below_set ?_ GE299.out) | exact HB.out))) : w.heap.size ≤ gb304)); have n5_ := Aside0.mk ((by rw [hg]; exact Nat.ne_of_lt (blk_lt (g := gb299) (o := .cells #[.int .i64 t295, .int .i64 t296, .bool t297, .bool t298] 32 (0, 0)) (by (with_reducible repeat (first | refine blk_drewN ?_ _ | refine blk_drew ?_ | refine blk_alloc ?_ _)); exact BK299.out)) : gb299 ≠ gb304)); have n6_ := Aside0.mk ((by rw [hg]; exact Nat.ne_of_gt (blk_lt (g := gb299) (o := .cells #[.int .i64 t295, .int .i64 t296, .bool t297, .bool t298] 32 (0, 0)) (by (with_reducible repeat (first | refine blk_drewN ?_ _ | refine blk_drew ?_ | refine blk_alloc ?_ _)); exact BK299.out)) : gb304 ≠ gb299)); clear BK299; clear HB; have BK299 := n0_; have HB := n1_; have BK304 := n2_; have GW304 := n3_; have GE304 := n4_; have NB299_304 := n5_; have NB304_299 := n6_; clear n0_ n1_ n2_ n3_ n4_ n5_ n6_; clear hb hbox hg; have hnb12 := NB304_299.out; have hnc12 := NB299_304.out; have hcz13_0 : w11.cell? ⟨gb304, 0, none⟩ = some (.int .i64 0) := (blk_cell BK304.out 0).trans rfl; have hcz13_1 : w11.cell? ⟨gb304, 1, none⟩ = some (.int .i64 0) := (blk_cell BK304.out 1).trans rfl; have hcz13_2 : w11.cell? ⟨gb304, 2, none⟩ = some (.bool false) := (blk_cell BK304.out 2).trans rfl; have hcz13_3 : w11.cell? ⟨gb304, 3, none⟩ = some (.bool false) := (blk_cell BK304.out 3).trans rfl; have hfz13_0 := blk_frozen BK304.out 0; have hfz13_1 := blk_frozen BK304.out 1; have hfz13_2 := blk_frozen BK304.out 2; have hfz13_3 := blk_frozen BK304.out 3; have hcz14_0 : w11.cell? ⟨gb299, 0, none⟩ = some (.int .i64 t295) := (blk_cell BK299.out 0).trans rfl; have hcz14_1 : w11.cell? ⟨gb299, 1, none⟩ = some (.int .i64 t296) := (blk_cell BK299.out 1).trans rfl; have hcz14_2 : w11.cell? ⟨gb299, 2, none⟩ = some (.bool t297) := (blk_cell BK299.out 2).trans rfl; have hcz14_3 : w11.cell? ⟨gb299, 3, none⟩ = some (.bool t298) := (blk_cell BK299.out 3).trans rfl; have hfz14_0 := blk_frozen BK299.out 0; have hfz14_1 := blk_frozen BK299.out 1; have hfz14_2 := blk_frozen BK299.out 2; have hfz14_3 := blk_frozen BK299.out 3) | ((with_reducible refine gate_callee (f := 30) rfl ?_); refine goesL_ (some 14) rfl rfl Try.func30 (by kernel_rfl) rfl #[.agg #[.int .i64 t300, .int .i64 t301, .bool t302, .bool t303], .agg #[.int .i64 t295, .int .i64 t296, .bool t297, .bool t298]] rfl (by (try simp only [List.map_toArray, List.map_cons, List.map_nil]); first | done | rfl | (simp only [List.length_drop, List.length_take]; rfl)) ?_; (with_reducible refine (laws_eqVerdict.calls t300 t301 t302 t303 t295 t296 t297 t298 true _ A5.out).mono ?_); rintro e w15 ⟨rfl, hb⟩; refine ⟨_, rfl, ?_⟩; have n0_ := Aside0.mk (blk_below (g := gb299) (o := .cells #[.int .i64 t295, .int .i64 t296, .bool t297, .bool t298] 32 (0, 0)) (by (with_reducible repeat (first | refine blk_drewN ?_ _ | refine blk_drew ?_ | refine blk_alloc ?_ _)); refine blk_far ?_ NB299_304.out _; (with_reducible repeat (first | refine blk_drewN ?_ _ | refine blk_drew ?_ | refine blk_alloc ?_ _)); refine blk_far ?_ NB299_304.out _; (with_reducible repeat (first | refine blk_drewN ?_ _ | refine blk_drew ?_ | refine blk_alloc ?_ _)); refine blk_far ?_ NB299_304.out _; (with_reducible repeat (first | refine blk_drewN ?_ _ | refine blk_drew ?_ | refine blk_alloc ?_ _)); refine blk_far ?_ NB299_304.out _; (with_reducible repeat (first | refine blk_drewN ?_ _ | refine blk_drew ?_ | refine blk_alloc ?_ _)); exact BK299.out) hb); have n1_ := Aside0.mk (blk_below (g := gb304) (o := .cells #[.int .i64 t300, .int .i64 t301, .bool t302, .bool t303] 32 (0, 0)) (by (with_reducible repeat (first | refine blk_drewN ?_ _ | refine blk_drew ?_ | refine blk_alloc ?_ _)); refine blk_put (cs := #[.int .i64 t300, .int .i64 t301, .bool t302, .bool false]) ?_ 3 _ rfl; (with_reducible repeat (first | refine blk_drewN ?_ _ | refine blk_drew ?_ | refine blk_alloc ?_ _)); refine blk_put (cs := #[.int .i64 t300, .int .i64 t301, .bool false, .bool false]) ?_ 2 _ rfl; (with_reducible repeat (first | refine blk_drewN ?_ _ | refine blk_drew ?_ | refine blk_alloc ?_ _)); refine blk_put (cs := #[.int .i64 t300, .int .i64 0, .bool false, .bool false]) ?_ 1 _ rfl; (with_reducible repeat (first | refine blk_drewN ?_ _ | refine blk_drew ?_ | refine blk_alloc ?_ _)); refine blk_put (cs := #[.int .i64 0, .int .i64 0, .bool false, .bool false]) ?_ 0 _ rfl; (with_reducible repeat (first | refine blk_drewN ?_ _ | refine blk_drew ?_ | refine blk_alloc ?_ _)); exact BK304.out) hb); have n2_ := Aside0.mk (below_step (by repeat (first | (with_reducible first | exact HB.out | apply below_alloc | apply pw_below_drewN | apply below_drew1 | refine below_set ?_ GE299.out | refine below_set ?_ GE304.out) | exact HB.out)) hb); clear BK299; clear BK304; clear HB; have BK299 := n0_; have BK304 := n1_; have HB := n2_; clear n0_ n1_ n2_; (try clear hb); (try clear hb2); (try clear hk); (try clear hi)))
      go_ret
      exact ⟨by first | rfl | (simp [errW_none, errW_some] <;> rfl) | (simp [*, errW_none, errW_some] <;> rfl), by repeat (first | (with_reducible first | exact HB.out | apply below_alloc | apply pw_below_drewN | apply below_drew1 | refine below_set ?_ GE299.out | refine below_set ?_ GE304.out) | exact HB.out)⟩
    · replace c6 := Bool.eq_false_iff.mpr c6
      subst c6
      have H1 : (some false) = some r := by rw [if_neg (show ¬ (false = true) by decide)] at H; exact H
      clear H
      have H := H1
      clear H1
      obtain rfl := Option.some.inj H
      go_enter Try.func5, Try.ntmps5
      go_wp2_with (first | ((with_reducible refine gate_callee (f := 29) rfl ?_); refine goesL_ (some 9) rfl rfl Try.func29 (by kernel_rfl) rfl #[.string a0] rfl (by (try simp only [List.map_toArray, List.map_cons, List.map_nil]); first | done | rfl | (simp only [List.length_drop, List.length_take]; rfl)) ?_; (with_reducible refine (spec_Judge.calls k a0 t295 t296 t297 t298 _ A3.out).mono ?_); rintro e w16 ⟨rfl, hb⟩; refine ⟨_, rfl, ?_⟩; have n0_ := Aside0.mk (below_step (by repeat (first | (with_reducible first | exact HB.out | apply below_alloc | apply pw_below_drewN | apply below_drew1) | exact HB.out)) hb); clear HB; have HB := n0_; clear n0_; (try clear hb); (try clear hb2); (try clear hk); (try clear hi)) | ((with_reducible refine gate_dst (N := 3) rfl ?_); refine box_event ?hg (N := 3) ?hd (cs := #[.int .i64 0, .int .i64 0, .bool false, .bool false]) (t := 32) ?hr ?_; (case hd => rfl); (case hg => rfl); (case hr => first | (go_simp; done) | (go_simp; rfl)); intro gb299 hg w17 hbox hb; have n0_ := Aside0.mk (below_step (by repeat (first | (with_reducible first | exact HB.out | apply below_alloc | apply pw_below_drewN | apply below_drew1) | exact HB.out)) hb); have n1_ := Aside0.mk (hbox); have n2_ := Aside0.mk ((by rw [hg]; exact (below_size (by repeat (first | (with_reducible first | exact HB.out | apply below_alloc | apply pw_below_drewN | apply below_drew1) | exact HB.out))) : w.heap.size ≤ gb299)); have n3_ := Aside0.mk ((by rw [hg]; exact (below_size (by repeat (first | (with_reducible first | exact HB.out | apply below_alloc | apply pw_below_drewN | apply below_drew1) | exact HB.out))) : w.heap.size ≤ gb299)); clear HB; have HB := n0_; have BK299 := n1_; have GW299 := n2_; have GE299 := n3_; clear n0_ n1_ n2_ n3_; clear hb hbox hg; have hcz18_0 : w17.cell? ⟨gb299, 0, none⟩ = some (.int .i64 0) := (blk_cell BK299.out 0).trans rfl; have hcz18_1 : w17.cell? ⟨gb299, 1, none⟩ = some (.int .i64 0) := (blk_cell BK299.out 1).trans rfl; have hcz18_2 : w17.cell? ⟨gb299, 2, none⟩ = some (.bool false) := (blk_cell BK299.out 2).trans rfl; have hcz18_3 : w17.cell? ⟨gb299, 3, none⟩ = some (.bool false) := (blk_cell BK299.out 3).trans rfl; have hfz18_0 := blk_frozen BK299.out 0; have hfz18_1 := blk_frozen BK299.out 1; have hfz18_2 := blk_frozen BK299.out 2; have hfz18_3 := blk_frozen BK299.out 3) | ((with_reducible refine gate_callee (f := 19) rfl ?_); refine goesL_ (some 11) rfl rfl Try.func19 (by kernel_rfl) rfl #[.string a0] rfl (by (try simp only [List.map_toArray, List.map_cons, List.map_nil]); first | done | rfl | (simp only [List.length_drop, List.length_take]; rfl)) ?_; (with_reducible refine (impl_Judge.calls a0 t300 t301 t302 t303 _ A4.out).mono ?_); rintro e w19 ⟨rfl, hb⟩; refine ⟨_, rfl, ?_⟩; have n0_ := Aside0.mk (blk_below (g := gb299) (o := .cells #[.int .i64 t295, .int .i64 t296, .bool t297, .bool t298] 32 (0, 0)) (by (with_reducible repeat (first | refine blk_drewN ?_ _ | refine blk_drew ?_ | refine blk_alloc ?_ _)); refine blk_put (cs := #[.int .i64 t295, .int .i64 t296, .bool t297, .bool false]) ?_ 3 _ rfl; (with_reducible repeat (first | refine blk_drewN ?_ _ | refine blk_drew ?_ | refine blk_alloc ?_ _)); refine blk_put (cs := #[.int .i64 t295, .int .i64 t296, .bool false, .bool false]) ?_ 2 _ rfl; (with_reducible repeat (first | refine blk_drewN ?_ _ | refine blk_drew ?_ | refine blk_alloc ?_ _)); refine blk_put (cs := #[.int .i64 t295, .int .i64 0, .bool false, .bool false]) ?_ 1 _ rfl; (with_reducible repeat (first | refine blk_drewN ?_ _ | refine blk_drew ?_ | refine blk_alloc ?_ _)); refine blk_put (cs := #[.int .i64 0, .int .i64 0, .bool false, .bool false]) ?_ 0 _ rfl; (with_reducible repeat (first | refine blk_drewN ?_ _ | refine blk_drew ?_ | refine blk_alloc ?_ _)); exact BK299.out) hb); have n1_ := Aside0.mk (below_step (by repeat (first | (with_reducible first | exact HB.out | apply below_alloc | apply pw_below_drewN | apply below_drew1 | refine below_set ?_ GE299.out) | exact HB.out)) hb); clear BK299; clear HB; have BK299 := n0_; have HB := n1_; clear n0_ n1_; (try clear hb); (try clear hb2); (try clear hk); (try clear hi)) | ((with_reducible refine gate_dst (N := 4) rfl ?_); refine box_event ?hg (N := 4) ?hd (cs := #[.int .i64 0, .int .i64 0, .bool false, .bool false]) (t := 32) ?hr ?_; (case hd => rfl); (case hg => rfl); (case hr => first | (go_simp; done) | (go_simp; rfl)); intro gb304 hg w20 hbox hb; have n0_ := Aside0.mk (blk_below (g := gb299) (o := .cells #[.int .i64 t295, .int .i64 t296, .bool t297, .bool t298] 32 (0, 0)) (by (with_reducible repeat (first | refine blk_drewN ?_ _ | refine blk_drew ?_ | refine blk_alloc ?_ _)); exact BK299.out) hb); have n1_ := Aside0.mk (below_step (by repeat (first | (with_reducible first | exact HB.out | apply below_alloc | apply pw_below_drewN | apply below_drew1 | refine below_set ?_ GE299.out) | exact HB.out)) hb); have n2_ := Aside0.mk (hbox); have n3_ := Aside0.mk ((by rw [hg]; exact (below_size (by repeat (first | (with_reducible first | exact HB.out | apply below_alloc | apply pw_below_drewN | apply below_drew1 | refine below_set ?_ GE299.out) | exact HB.out))) : w.heap.size ≤ gb304)); have n4_ := Aside0.mk ((by rw [hg]; exact (below_size (by repeat (first | (with_reducible first | exact HB.out | apply below_alloc | apply pw_below_drewN | apply below_drew1 | refine below_set ?_ GE299.out) | exact HB.out))) : w.heap.size ≤ gb304)); have n5_ := Aside0.mk ((by rw [hg]; exact Nat.ne_of_lt (blk_lt (g := gb299) (o := .cells #[.int .i64 t295, .int .i64 t296, .bool t297, .bool t298] 32 (0, 0)) (by (with_reducible repeat (first | refine blk_drewN ?_ _ | refine blk_drew ?_ | refine blk_alloc ?_ _)); exact BK299.out)) : gb299 ≠ gb304)); have n6_ := Aside0.mk ((by rw [hg]; exact Nat.ne_of_gt (blk_lt (g := gb299) (o := .cells #[.int .i64 t295, .int .i64 t296, .bool t297, .bool t298] 32 (0, 0)) (by (with_reducible repeat (first | refine blk_drewN ?_ _ | refine blk_drew ?_ | refine blk_alloc ?_ _)); exact BK299.out)) : gb304 ≠ gb299)); clear BK299; clear HB; have BK299 := n0_; have HB := n1_; have BK304 := n2_; have GW304 := n3_; have GE304 := n4_; have NB299_304 := n5_; have NB304_299 := n6_; clear n0_ n1_ n2_ n3_ n4_ n5_ n6_; clear hb hbox hg; have hnb21 := NB304_299.out; have hnc21 := NB299_304.out; have hcz22_0 : w20.cell? ⟨gb304, 0, none⟩ = some (.int .i64 0) := (blk_cell BK304.out 0).trans rfl; have hcz22_1 : w20.cell? ⟨gb304, 1, none⟩ = some (.int .i64 0) := (blk_cell BK304.out 1).trans rfl; have hcz22_2 : w20.cell? ⟨gb304, 2, none⟩ = some (.bool false) := (blk_cell BK304.out 2).trans rfl; have hcz22_3 : w20.cell? ⟨gb304, 3, none⟩ = some (.bool false) := (blk_cell BK304.out 3).trans rfl; have hfz22_0 := blk_frozen BK304.out 0; have hfz22_1 := blk_frozen BK304.out 1; have hfz22_2 := blk_frozen BK304.out 2; have hfz22_3 := blk_frozen BK304.out 3; have hcz23_0 : w20.cell? ⟨gb299, 0, none⟩ = some (.int .i64 t295) := (blk_cell BK299.out 0).trans rfl; have hcz23_1 : w20.cell? ⟨gb299, 1, none⟩ = some (.int .i64 t296) := (blk_cell BK299.out 1).trans rfl; have hcz23_2 : w20.cell? ⟨gb299, 2, none⟩ = some (.bool t297) := (blk_cell BK299.out 2).trans rfl; have hcz23_3 : w20.cell? ⟨gb299, 3, none⟩ = some (.bool t298) := (blk_cell BK299.out 3).trans rfl; have hfz23_0 := blk_frozen BK299.out 0; have hfz23_1 := blk_frozen BK299.out 1; have hfz23_2 := blk_frozen BK299.out 2; have hfz23_3 := blk_frozen BK299.out 3) | ((with_reducible refine gate_callee (f := 30) rfl ?_); refine goesL_ (some 14) rfl rfl Try.func30 (by kernel_rfl) rfl #[.agg #[.int .i64 t300, .int .i64 t301, .bool t302, .bool t303], .agg #[.int .i64 t295, .int .i64 t296, .bool t297, .bool t298]] rfl (by (try simp only [List.map_toArray, List.map_cons, List.map_nil]); first | done | rfl | (simp only [List.length_drop, List.length_take]; rfl)) ?_; (with_reducible refine (laws_eqVerdict.calls t300 t301 t302 t303 t295 t296 t297 t298 false _ A5.out).mono ?_); rintro e w24 ⟨rfl, hb⟩; refine ⟨_, rfl, ?_⟩; have n0_ := Aside0.mk (blk_below (g := gb299) (o := .cells #[.int .i64 t295, .int .i64 t296, .bool t297, .bool t298] 32 (0, 0)) (by (with_reducible repeat (first | refine blk_drewN ?_ _ | refine blk_drew ?_ | refine blk_alloc ?_ _)); refine blk_far ?_ NB299_304.out _; (with_reducible repeat (first | refine blk_drewN ?_ _ | refine blk_drew ?_ | refine blk_alloc ?_ _)); refine blk_far ?_ NB299_304.out _; (with_reducible repeat (first | refine blk_drewN ?_ _ | refine blk_drew ?_ | refine blk_alloc ?_ _)); refine blk_far ?_ NB299_304.out _; (with_reducible repeat (first | refine blk_drewN ?_ _ | refine blk_drew ?_ | refine blk_alloc ?_ _)); refine blk_far ?_ NB299_304.out _; (with_reducible repeat (first | refine blk_drewN ?_ _ | refine blk_drew ?_ | refine blk_alloc ?_ _)); exact BK299.out) hb); have n1_ := Aside0.mk (blk_below (g := gb304) (o := .cells #[.int .i64 t300, .int .i64 t301, .bool t302, .bool t303] 32 (0, 0)) (by (with_reducible repeat (first | refine blk_drewN ?_ _ | refine blk_drew ?_ | refine blk_alloc ?_ _)); refine blk_put (cs := #[.int .i64 t300, .int .i64 t301, .bool t302, .bool false]) ?_ 3 _ rfl; (with_reducible repeat (first | refine blk_drewN ?_ _ | refine blk_drew ?_ | refine blk_alloc ?_ _)); refine blk_put (cs := #[.int .i64 t300, .int .i64 t301, .bool false, .bool false]) ?_ 2 _ rfl; (with_reducible repeat (first | refine blk_drewN ?_ _ | refine blk_drew ?_ | refine blk_alloc ?_ _)); refine blk_put (cs := #[.int .i64 t300, .int .i64 0, .bool false, .bool false]) ?_ 1 _ rfl; (with_reducible repeat (first | refine blk_drewN ?_ _ | refine blk_drew ?_ | refine blk_alloc ?_ _)); refine blk_put (cs := #[.int .i64 0, .int .i64 0, .bool false, .bool false]) ?_ 0 _ rfl; (with_reducible repeat (first | refine blk_drewN ?_ _ | refine blk_drew ?_ | refine blk_alloc ?_ _)); exact BK304.out) hb); have n2_ := Aside0.mk (below_step (by repeat (first | (with_reducible first | exact HB.out | apply below_alloc | apply pw_below_drewN | apply below_drew1 | refine below_set ?_ GE299.out | refine below_set ?_ GE304.out) | exact HB.out)) hb); clear BK299; clear BK304; clear HB; have BK299 := n0_; have BK304 := n1_; have HB := n2_; clear n0_ n1_ n2_; (try clear hb); (try clear hb2); (try clear hk); (try clear hi)))
      go_ret
      exact ⟨by first | rfl | (simp [errW_none, errW_some] <;> rfl) | (simp [*, errW_none, errW_some] <;> rfl), by repeat (first | (with_reducible first | exact HB.out | apply below_alloc | apply pw_below_drewN | apply below_drew1 | refine below_set ?_ GE299.out | refine below_set ?_ GE304.out) | exact HB.out)⟩

/-- THE ONE PURE STATEMENT of laws_FnExactJudge: yours. -/
def laws_FnExactJudge.Pure : Prop := ∀ (a0 : ByteArray), a0.size ≤ 140737488351232 → ∃ k, laws_FnExactJudge.f k a0 = some true
theorem laws_FnExactJudge.walk (P : laws_FnExactJudge.Pure) (a0 : ByteArray) (w : World) (w0 : a0.size ≤ 140737488351232) :
    Calls Try.prog 5 #[.string a0] w fun e w' => e = .returned (.bool true) ∧ Below w.heap.size w w' := by
  obtain ⟨k, h⟩ := P a0 w0
  refine (laws_FnExactJudge.calls k a0 true w h).mono ?_
  rintro e w' ⟨rfl, hd⟩
  exact ⟨rfl, hd⟩

end Go.Proofs.Ytdoclpgciadjaaa.P

/- The reference's walk over a text: it ends as the program's does. -/
namespace Go.Proofs.Ytdoclpgciadjaaa.P
open Go Go.RowKit Go.Proofs.YtdoclpgciadjaaaW.PrintWords
set_option linter.unusedVariables false
theorem due_total (l : List Int) (n : Nat) (hn : n ≤ l.length) (hl : l.length < 100000000) : ∃ b, spec_l1due.f l (n : Int) = some b := by
  unfold spec_l1due.f
  by_cases c : n < 5
  · rw [if_pos (by omega)]; exact ⟨_, rfl⟩
  · have w1 : wrap64 ((n : Int) - 1) = ((n - 1 : Nat) : Int) := by unfold wrap64; omega
    have w2 : wrap64 ((n : Int) - 2) = ((n - 2 : Nat) : Int) := by unfold wrap64; omega
    have w3 : wrap64 ((n : Int) - 3) = ((n - 3 : Nat) : Int) := by unfold wrap64; omega
    have w4 : wrap64 ((n : Int) - 4) = ((n - 4 : Nat) : Int) := by unfold wrap64; omega
    have w5 : wrap64 ((n : Int) - 5) = ((n - 5 : Nat) : Int) := by unfold wrap64; omega
    rw [if_neg (by omega), w1, w2, w3, w4, w5, if_pos (by omega), if_pos (by omega), if_pos (by omega), if_pos (by omega)]
    by_cases a1 : rd l ((n - 1 : Nat) : Int) = rd l ((n - 2 : Nat) : Int)
    · rw [if_pos a1, if_pos (by omega), if_pos (by omega)]
      by_cases a2 : rd l ((n - 2 : Nat) : Int) = rd l ((n - 3 : Nat) : Int)
      · rw [if_pos a2, if_pos (by omega), if_pos (by omega)]
        by_cases a3 : rd l ((n - 3 : Nat) : Int) = rd l ((n - 4 : Nat) : Int)
        · rw [if_pos a3, if_pos (by omega), if_pos (by omega)]; exact ⟨_, rfl⟩
        · rw [if_neg a3]; exact ⟨_, rfl⟩
      · rw [if_neg a2]; exact ⟨_, rfl⟩
    · rw [if_neg a1]; exact ⟨_, rfl⟩
/-- The tail comes to its end, whatever it answers. -/
theorem tail_total {all p : List Int} {i : Nat} {x : Int} (hi : i < all.length) (hl : all.length < 100000000) (hf : Ev (fun k => spec_l1field.f k p) x) : ∃ b, ∀ (g : Nat → Bool → Option (Int × List Int × Bool)) (R : Int × List Int × Bool), Ev (fun k => g k b) R → Ev (fun k => spec_l1walk.tail k all p i (g k)) R := by
  obtain ⟨d, hd⟩ := due_total all (i + 1) (by omega) hl
  cases d with
  | false => exact ⟨false, fun g R h => ev_some hd (ev_neg (by decide) h)⟩
  | true =>
    by_cases c : x ≤ 10
    · exact ⟨true, fun g R h => ev_some hd (ev_pos rfl (Ev.bind hf (ev_pos c h)))⟩
    · exact ⟨x == 11, fun g R h => ev_some hd (ev_pos rfl (Ev.bind hf (ev_neg c h)))⟩
/-- .. and what it answers where the walk goes on. -/
theorem tail_at {all p : List Int} {i : Nat} {t : WS} (h : At all (i + 1) t p) (hi : i < all.length) (hl : all.length < 100000000) (g : Nat → Bool → Option (Int × List Int × Bool)) (R : Int × List Int × Bool) (hg : Ev (fun k => g k (dueW t)) R) : Ev (fun k => spec_l1walk.tail k all p i (g k)) R := by
  have hf : Ev (fun k => spec_l1field.f k p) t.field := field_ev h.ph h.bits
  by_cases c11 : t.field ≤ 11
  · obtain ⟨run, last, ht, hrun, -⟩ := h.trail c11
    have r1 := h.r1
    have hd := due_eq ht (by omega) (by omega)
    by_cases h5 : run = 5
    · rw [decide_eq_true h5] at hd
      have hdw : dueW t = true := by unfold dueW; rw [show (t.run == 5) = true by simp; omega, decide_eq_true c11]; rfl
      rw [hdw] at hg
      refine ev_some hd (ev_pos rfl (Ev.bind hf ?_))
      by_cases c : t.field ≤ 10
      · exact ev_pos c hg
      · refine ev_neg c ?_
        rw [show (t.field == 11) = true by simp; omega]
        exact hg
    · rw [decide_eq_false h5] at hd
      have hdw : dueW t = false := by unfold dueW; rw [show (t.run == 5) = false by simp; omega]; rfl
      rw [hdw] at hg
      exact ev_some hd (ev_neg (by decide) hg)
  · have hdw : dueW t = false := by unfold dueW; rw [decide_eq_false c11, Bool.and_false]
    rw [hdw] at hg
    obtain ⟨d, hd⟩ := due_total all (i + 1) (by omega) hl
    cases d with
    | false => exact ev_some hd (ev_neg (by decide) hg)
    | true =>
      refine ev_some hd (ev_pos rfl (Ev.bind hf (ev_neg (by omega) ?_)))
      rw [show (t.field == 11) = false by simp; omega]
      exact hg
theorem field_next {p : List Int} {s : WS} (h : Ph p (core s) s.sum) (hp : Bits p) (b : Int) (hb : b = 48 ∨ b = 49) : ∃ x, Ev (fun k => spec_l1field.f k (p ++ [b])) x := by
  by_cases hend : s.field = 14 ∧ s.left = 1
  · generalize hg : core s = cc at h
    generalize hm : s.sum = mm at h
    cases h with
    | eof H D X C T e r i h d x c t3 t =>
      have hD : Bits D := bits_len hp D (fun x hx => by simp [hx])
      have hr := dataB_range (r := r) (V_range hD).1
      have := field_full (R := X ++ C ++ T ++ [b]) h d hD (by simp; omega)
      rw [show H ++ D ++ (X ++ C ++ T ++ [b]) = H ++ D ++ X ++ C ++ T ++ [b] by simp] at this
      exact ⟨_, this⟩
    | del H D X C T e r i h d x c t => exfalso; have := (core_is hg hm).f; omega
    | _ => exfalso; have := (core_is hg hm).f; omega
  · obtain ⟨c', m', hP, -, -⟩ := ph_step h s rfl rfl b hb hp hend
    exact ⟨_, field_ev hP (hp.append (fun x hx => by rw [List.mem_singleton] at hx; rw [hx]; exact hb))⟩
/-- What the reference's walk comes to. -/
structure SpecEnd (all : List Int) (t : WS) (R : Int × List Int × Bool) : Prop where
  code : R.1 = t.code
  live : t.code = 0 ∨ t.code = 1 → At all all.length t R.2.1 ∧ R.2.2 = dueW t
theorem specwalk_loop (all : List Int) (hb : Bits all) (hl : all.length ≤ 4000) : ∀ (d i : Nat) (s : WS) (p : List Int), i + d = all.length → At all i s p → ∃ R, Ev (fun k => spec_l1walk.l0 k all s.code p (dueW s) i) R ∧ SpecEnd all (walkG (all.drop i) s) R := by
  intro d
  induction d with
  | zero =>
    intro i s p hi h
    refine ⟨(s.code, p, dueW s), Ev.step (f := fun _ => some (s.code, p, dueW s)) (fun k => ?_) (Ev.now _), ?_⟩
    · rw [spec_l1walk.l0, if_neg (by omega)]
    · rw [List.drop_eq_nil_of_le (by omega)]
      obtain rfl : i = all.length := by omega
      exact ⟨rfl, fun _ => ⟨h, rfl⟩⟩
  | succ d ih =>
    intro i s p hi h
    have his : i < all.length := by omega
    have hc : rd all (i : Int) = 48 ∨ rd all (i : Int) = 49 := hb _ (by have := rd_get all i his; exact List.mem_of_getElem? this)
    have hdrop : all.drop i = rd all (i : Int) :: all.drop (i + 1) := by
      rw [List.drop_eq_getElem_cons his]
      congr 1
      have := rd_get all i his
      rw [List.getElem?_eq_getElem his] at this
      exact Option.some.inj this
    have hcode := h.code
    have hrun : ¬ (s.code ≠ 0 ∧ s.code ≠ 1) := by omega
    -- behind a stop
    have stop : ∀ (c' : Int) (p' : List Int) (x : Int), ¬ (c' = 0 ∨ c' = 1) → Ev (fun k => spec_l1field.f k p') x → (hearW s (rd all (i : Int))).code = c' → ∃ b R, (∀ R', Ev (fun k => spec_l1walk.l0 k all c' p' b (i + 1)) R' → Ev (fun k => spec_l1walk.tail k all p' i (fun d => spec_l1walk.l0 k all c' p' d (i + 1))) R') ∧ Ev (fun k => spec_l1walk.l0 k all c' p' b (i + 1)) R ∧ SpecEnd all (walkG (all.drop i) s) R := by
      intro c' p' x hne hf hcd
      obtain ⟨b, hbt⟩ := tail_total his (by omega) hf
      have hw : walkG (all.drop i) s = if all.drop (i + 1) = [] then hearW s (rd all (i : Int)) else { hearW s (rd all (i : Int)) with code := 7 } := by
        rw [hdrop, walkG, if_neg (by rw [hcd]; exact hne)]
      by_cases hlast : i + 1 < all.length
      · refine ⟨b, (7, p', false), fun R' hR' => hbt (fun k d => spec_l1walk.l0 k all c' p' d (i + 1)) R' hR', Ev.step (f := fun _ => some (7, p', false)) (fun k => ?_) (Ev.now _), ?_⟩
        · rw [spec_l1walk.l0, if_pos hlast, if_pos (by omega)]
        · rw [hw, if_neg (by intro h2; have := congrArg List.length h2; simp at this; omega)]
          exact ⟨rfl, fun h2 => by simp only [] at h2; omega⟩
      · refine ⟨b, (c', p', b), fun R' hR' => hbt (fun k d => spec_l1walk.l0 k all c' p' d (i + 1)) R' hR', Ev.step (f := fun _ => some (c', p', b)) (fun k => ?_) (Ev.now _), ?_⟩
        · rw [spec_l1walk.l0, if_neg hlast]
        · rw [hw, if_pos (List.drop_eq_nil_of_le (by omega))]
          exact ⟨hcd.symm, fun h2 => absurd (hcd ▸ h2) hne⟩
    have hfp : Ev (fun k => spec_l1field.f k p) s.field := field_ev h.ph h.bits
    cases at_step h his hb with
    | stop hd hlv hcd =>
      have hf11 : s.field ≤ 11 := by unfold dueW at hd; simp only [Bool.and_eq_true, decide_eq_true_eq] at hd; exact hd.2
      obtain ⟨run, last, ht, hr, hlev⟩ := h.trail hf11
      have h5 : run = 5 := by unfold dueW at hd; simp only [Bool.and_eq_true, beq_iff_eq] at hd; omega
      have hri := ht.run_le
      obtain ⟨b, R, hbt, hR, hS⟩ := stop 3 p s.field (by omega) hfp hcd
      refine ⟨R, Ev.step (f := fun k => spec_l1walk.tail k all p i (fun d => spec_l1walk.l0 k all 3 p d (i + 1))) (fun k => ?_) (hbt R hR), hS⟩
      rw [spec_l1walk.l0, if_pos his, if_neg hrun, if_pos hd, if_pos (by omega), if_pos (by rw [hlv, hlev (by omega)]; exact (ht.same (i - 1) (by omega) (by omega)).symm)]
    | skip hd hlv hcd ha =>
      have hf11 : s.field ≤ 11 := by unfold dueW at hd; simp only [Bool.and_eq_true, decide_eq_true_eq] at hd; exact hd.2
      obtain ⟨run, last, ht, hr, hlev⟩ := h.trail hf11
      have h5 : run = 5 := by unfold dueW at hd; simp only [Bool.and_eq_true, beq_iff_eq] at hd; omega
      have hri := ht.run_le
      obtain ⟨R, hR, hS⟩ := ih (i + 1) _ p (by omega) ha
      rw [hcd] at hR
      refine ⟨R, Ev.step (f := fun k => spec_l1walk.tail k all p i (fun d => spec_l1walk.l0 k all 0 p d (i + 1))) (fun k => ?_) (tail_at ha his (by omega) (fun k d => spec_l1walk.l0 k all 0 p d (i + 1)) R hR), ?_⟩
      · rw [spec_l1walk.l0, if_pos his, if_neg hrun, if_pos hd, if_pos (by omega), if_neg (by rw [ht.same (i - 1) (by omega) (by omega), ← hlev (by omega)]; exact hlv)]
      · rw [hdrop, walkG, if_pos (.inl hcd)]; exact hS
    | take hd hcd ha =>
      have hlook := look_ev h.ph h.bits s rfl rfl _ hc
      rw [← hcd] at hlook
      by_cases hrn : (hearW s (rd all (i : Int))).code = 0 ∨ (hearW s (rd all (i : Int))).code = 1
      · have hat := ha hrn
        obtain ⟨R, hR, hS⟩ := ih (i + 1) _ _ (by omega) hat
        refine ⟨R, Ev.step (f := fun k => (spec_l1look.f k p (rd all (i : Int))).bind fun c => spec_l1walk.tail k all (p ++ [rd all (i : Int)]) i (fun d => spec_l1walk.l0 k all c (p ++ [rd all (i : Int)]) d (i + 1))) (fun k => ?_) (Ev.bind hlook (tail_at hat his (by omega) (fun k d => spec_l1walk.l0 k all (hearW s (rd all (i : Int))).code (p ++ [rd all (i : Int)]) d (i + 1)) R hR)), ?_⟩
        · rw [spec_l1walk.l0, if_pos his, if_neg hrun, if_neg (by rw [hd]; decide)]
        · rw [hdrop, walkG, if_pos hrn]; exact hS
      · obtain ⟨x, hx⟩ := field_next h.ph h.bits (rd all (i : Int)) hc
        obtain ⟨b, R, hbt, hR, hS⟩ := stop _ (p ++ [rd all (i : Int)]) x hrn hx rfl
        refine ⟨R, Ev.step (f := fun k => (spec_l1look.f k p (rd all (i : Int))).bind fun c => spec_l1walk.tail k all (p ++ [rd all (i : Int)]) i (fun d => spec_l1walk.l0 k all c (p ++ [rd all (i : Int)]) d (i + 1))) (fun k => ?_) (Ev.bind hlook (hbt R hR)), hS⟩
        rw [spec_l1walk.l0, if_pos his, if_neg hrun, if_neg (by rw [hd]; decide)]
theorem specwalk_ev (a0 : ByteArray) : ∃ R, Ev (fun k => spec_l1walk.f k a0) R ∧ SpecEnd (bytesOf a0) (walkV a0) R := by
  unfold spec_l1walk.f walkV
  by_cases c : a0.size ≤ 4000 ∧ isBits a0 = true
  · obtain ⟨R, hR, hS⟩ := specwalk_loop (bytesOf a0) (bits_of_isBits c.2) (by rw [bytesOf_length]; exact c.1) (bytesOf a0).length 0 startW [] (by omega) (At.start _)
    refine ⟨R, ev_pos c hR, ?_⟩
    rw [if_pos c]
    exact hS
  · refine ⟨(8, [], false), ev_neg c (Ev.now _), ?_⟩
    rw [if_neg c]
    exact ⟨rfl, fun h => by simp only [] at h; omega⟩
end Go.Proofs.Ytdoclpgciadjaaa.P

/- Judge: the program's answer is the reference's, for every text. -/
namespace Go.Proofs.Ytdoclpgciadjaaa.Pure
open Go Go.RowKit Go.Proofs.Ytdoclpgciadjaaa.P Go.Proofs.YtdoclpgciadjaaaW.PrintWords Go.Proofs.YtdoclpgciadjaaaW.PrintLast
set_option linter.unusedVariables false
theorem lay_e0 {p : List Int} {c : Int × Int × Int × Bool × Int × Bool × Int × List Int} {m : Int} (h : Ph p c m) (hp : Bits p) (hf : c.1 ≤ 8) : ∃ x, Ev (fun k => spec_l1lay.f k p) (x, 0) := by
  have r13 : ∀ (a r z : Int) (I R : List Int), I.length = 11 → rd (a :: I ++ [r] ++ z :: R) 13 = z := by
    intro a r z I R h
    have := rd_app_at (a :: I ++ [r]) R z
    rw [show (((a :: I ++ [r]).length : Nat) : Int) = 13 by simp [h]] at this
    exact this
  cases h with
  | sof => exact ⟨_, lay_few (by simp)⟩
  | ida a I h => exact ⟨_, lay_few (by simp; omega)⟩
  | rtr a I h => exact ⟨_, lay_few (by simp; omega)⟩
  | ide a r I h => exact ⟨_, lay_few (by simp; omega)⟩
  | idb a r I J h k => exact ⟨_, lay_part (e := true) (by have := r13 a r 49 I J h; simpa using this) (by simp; omega) (by simp; omega)⟩
  | rtrx a r I J h k => exact ⟨_, lay_part (e := true) (by have := r13 a r 49 I J h; simpa using this) (by simp; omega) (by simp; omega)⟩
  | resx a r q I J Z h k z => exact ⟨_, lay_part (e := true) (by have := r13 a r 49 I (J ++ [q] ++ Z) h; simpa using this) (by simp; omega) (by simp; omega)⟩
  | resb a r I h => exact ⟨_, lay_part (e := false) (by have := r13 a r 48 I [] h; simpa using this) (by simp; omega) (by simp; omega)⟩
  | dlc H D e r i h d =>
    have hl := hd_len h
    have hlen : (H ++ D).length = H.length + D.length := by simp
    exact ⟨_, lay_part (e := e) (hd_13 h D) (by rw [hlen, hl]; split <;> omega) (by rw [hlen, hl]; split <;> omega)⟩
  | data => simp only [] at hf; omega
  | crc => simp only [] at hf; omega
  | del H D X C T e r i h d x c t => simp only [] at hf; omega
  | eof => simp only [] at hf; omega
theorem crcOk_no {p : List Int} {h e : Int} (hl : Ev (fun k => spec_l1lay.f k p) (h, e)) (he : 0 ≤ e) (he2 : e ≤ 1000) (hn : e = 0 ∨ (p.length : Int) < e + 15) : Ev (fun k => spec_l1crcOk.f k p) false := by
  unfold spec_l1crcOk.f
  refine Ev.bind hl ?_
  simp only []
  have j : Ev (fun k => spec_l1crcOk.j0 k p e true) false := by
    refine Ev.step (f := fun _ => some false) (fun k => ?_) (Ev.now _)
    simp only [spec_l1crcOk.j0]
    rw [if_pos trivial]
  by_cases c : e = 0
  · exact ev_pos c j
  · refine ev_neg c ?_
    rw [w64 (x := e + 15) (by omega) (by omega), decide_eq_true (by omega)]
    exact j
theorem crcOk_ev {p : List Int} {s : WS} (h : Ph p (core s) s.sum) (hp : Bits p) : Ev (fun k => spec_l1crcOk.f k p) (crcOkW s) := by
  generalize hg : core s = cc at h
  generalize hm : s.sum = mm at h
  by_cases hf : cc.1 ≤ 8
  · obtain ⟨x, hx⟩ := lay_e0 h hp hf
    have : s.field = cc.1 := by rw [← hg]; rfl
    have e : crcOkW s = false := by unfold crcOkW; rw [decide_eq_false (by omega), Bool.false_and]
    rw [e]
    exact crcOk_no hx (by omega) (by omega) (.inl rfl)
  · cases h with
    | data H D X e r i h d x =>
      have hD : Bits D := bits_len hp D (fun x hx => by simp [hx])
      have hr := dataB_range (r := r) (V_range hD).1
      have hl := hd_len h
      have hH : H.length = 15 ∨ H.length = 35 := by rw [hl]; split <;> omega
      have e0 : crcOkW s = false := by unfold crcOkW; rw [decide_eq_false (by have := (core_is hg hm).f; omega), Bool.false_and]
      rw [e0]
      exact crcOk_no (lay_full (R := X) h d hD (by omega)) (by omega) (by omega) (.inr (by simp [d]; omega))
    | crc H D X C e r i h d x c =>
      have hD : Bits D := bits_len hp D (fun x hx => by simp [hx])
      have hr := dataB_range (r := r) (V_range hD).1
      have hl := hd_len h
      have hH : H.length = 15 ∨ H.length = 35 := by rw [hl]; split <;> omega
      have e0 : crcOkW s = false := by unfold crcOkW; rw [decide_eq_false (by have := (core_is hg hm).f; omega), Bool.false_and]
      rw [e0]
      have hlay := lay_full (R := X ++ C) h d hD (by simp; omega)
      rw [← List.append_assoc] at hlay
      exact crcOk_no hlay (by omega) (by omega) (.inr (by simp [d]; omega))
    | del H D X C T e r i h d x c t =>
      have hC := core_is hg hm
      have := crcOk_full h d x c (by omega) hp
      have e1 : crcOkW s = (crcS (H ++ D ++ X) == V C) := by unfold crcOkW; rw [hC.m, hC.g, decide_eq_true (by have := hC.f; omega), Bool.true_and]
      rw [e1]; exact this
    | eof H D X C T e r i h d x c t3 t =>
      have hC := core_is hg hm
      have := crcOk_full h d x c (by omega) hp
      have e1 : crcOkW s = (crcS (H ++ D ++ X) == V C) := by unfold crcOkW; rw [hC.m, hC.g, decide_eq_true (by have := hC.f; omega), Bool.true_and]
      rw [e1]; exact this
    | _ => exfalso; simp only [] at hf; omega
theorem specJudge_ev (a0 : ByteArray) : Ev (fun k => spec_Judge.f k a0) (judgeV a0) := by
  obtain ⟨R, hR, hS⟩ := specwalk_ev a0
  obtain ⟨c, p, d⟩ := R
  have hc : c = (walkV a0).code := hS.code
  unfold spec_Judge.f
  refine Ev.bind hR ?_
  simp only []
  unfold judgeV
  have j : ∀ b, Ev (fun k => spec_Judge.j0 k c p d b) (if b = true then (c, 0, false, false) else (judgeV a0)) → True := fun _ _ => trivial
  by_cases hl : (walkV a0).code = 0 ∨ (walkV a0).code = 1
  · rw [if_pos hl]
    obtain ⟨ha, hd⟩ := hS.live hl
    simp only [] at ha hd
    have go : Ev (fun k => spec_Judge.j0 k c p d false) ((walkV a0).code, (walkV a0).field, dueW (walkV a0), crcOkW (walkV a0)) := by
      refine Ev.step (f := fun k => (spec_l1field.f k p).bind fun t291 => ((spec_l1crcOk.f k p).bind fun t292 => (some (c, t291, d, t292)))) (fun k => ?_) (Ev.bind (field_ev ha.ph ha.bits) (Ev.bind (crcOk_ev ha.ph ha.bits) ?_))
      · simp only [spec_Judge.j0]
        rw [if_neg (by decide)]
      · rw [hc, hd]; exact Ev.now _
    by_cases h0 : c = 0
    · exact ev_pos h0 go
    · refine ev_neg h0 ?_
      rw [show (c != 1) = false by simp; omega]
      exact go
  · rw [if_neg hl]
    refine ev_neg (by omega) ?_
    rw [show (c != 1) = true by simp; omega]
    refine Ev.step (f := fun _ => some (c, 0, false, false)) (fun k => ?_) ?_
    · simp only [spec_Judge.j0]
      rw [if_pos trivial]
    · rw [hc]; exact Ev.now _
theorem FnExactJudge : laws_FnExactJudge.Pure := by
  intro a0 h1
  refine Ev.rounds ?_
  unfold laws_FnExactJudge.f
  by_cases c : (a0.size : Int) > 1048576
  · exact ev_pos c (Ev.now _)
  · refine ev_neg c (Ev.bind (specJudge_ev a0) (ev_some rfl (ev_some (b := true) ?_ (ev_pos rfl (Ev.now _)))))
    unfold laws_eqVerdict.f
    simp
end Go.Proofs.Ytdoclpgciadjaaa.Pure
