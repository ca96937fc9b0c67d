/- Texts of the proof of FnExactDecode, joined. -/
import Derived.Test.YtdoclpgciadjaaaSFnExactDecode21
import Derived.Test.YtdoclpgciadjaaaSFnExactDecode25
import Derived.Test.YtdoclpgciadjaaaSFnExactDecode23
import Derived.Test.YtdoclpgciadjaaaSFnExactDecode22
import Derived.Test.YtdoclpgciadjaaaSFnExactDecode24
import Derived.Deep.QuietTactic
import Derived.BigQuiet
import Derived.Deep.MidRow
namespace Go.Proofs.Ytdoclpgciadjaaa.P
open Go.RowKit Go.Proofs.YtdoclpgciadjaaaW.PrintWords Go.Proofs.YtdoclpgciadjaaaW.PrintLast Go.Proofs.YtdoclpgciadjaaaW.PrintMore
set_option linter.unusedVariables false
set_option linter.unusedSimpArgs false
def laws_eqFrame.f (k : Nat) (a0_0 : Bool) (a0_1 : Int) (a0_2 : Bool) (a0_3 : Int) (l0_4 : List Int) (a1_0 : Bool) (a1_1 : Int) (a1_2 : Bool) (a1_3 : Int) (l1_4 : List Int) : Option (Bool) := if (a0_0 != a1_0) = true then (some false) else (if a0_1 = a1_1 then (if (a0_2 != a1_2) = true then (some false) else (if a0_3 = a1_3 then ((laws_eqByteS.f k l0_4 l1_4).bind fun t143 => (if t143 = true then (some true) else (some false))) else (some false))) else (some false))
theorem laws_eqFrame.mono : ∀ a0 a1 a2 a3 a4 a5 a6 a7 a8 a9 k, LeO (laws_eqFrame.f k a0 a1 a2 a3 a4 a5 a6 a7 a8 a9) (laws_eqFrame.f (k + 1) a0 a1 a2 a3 a4 a5 a6 a7 a8 a9) := by
  intro a0 a1 a2 a3 a4 a5 a6 a7 a8 a9 k
  unfold laws_eqFrame.f
  repeat' first
      | (with_reducible exact laws_eqByteS.mono _ _ _)
      | (with_reducible exact LeO.refl _)
      | (with_reducible exact LeO.none _)
      | (with_reducible refine LeO.ite ?_ ?_)
      | (with_reducible refine LeO.bind ?_ (fun _ => ?_))
      | exact laws_eqByteS.mono _ _ _
      | exact LeO.none _
      | refine LeO.ite ?_ ?_
      | refine LeO.bind ?_ (fun _ => ?_)
set_option maxHeartbeats 8000000 in
set_option maxRecDepth 100000 in
theorem laws_eqFrame.calls (k : Nat) (a0_0 : Bool) (a0_1 : Int) (a0_2 : Bool) (a0_3 : Int) (A0_4 : Option Addr) (c0_4 : Nat) (l0_4 : List Int) (a1_0 : Bool) (a1_1 : Int) (a1_2 : Bool) (a1_3 : Int) (A1_4 : Option Addr) (c1_4 : Nat) (l1_4 : List Int) (r : Bool) (w : World) (hr0_4 : Kd.C (Kd.int .u8) w A0_4 l0_4.length l0_4) (hc0_4 : l0_4.length ≤ c0_4) (hr1_4 : Kd.C (Kd.int .u8) w A1_4 l1_4.length l1_4) (hc1_4 : l1_4.length ≤ c1_4) (h : laws_eqFrame.f k a0_0 a0_1 a0_2 a0_3 l0_4 a1_0 a1_1 a1_2 a1_3 l1_4 = some r) :
    Calls Try.prog 36 #[.agg #[.bool a0_0, .int .u32 a0_1, .bool a0_2, .int .i64 a0_3, .slice A0_4 l0_4.length c0_4], .agg #[.bool a1_0, .int .u32 a1_1, .bool a1_2, .int .i64 a1_3, .slice A1_4 l1_4.length c1_4]] w fun e w' => e = .returned (.bool r) ∧ Below w.heap.size w w' := by
  have hu25 := Try.underlying25
  have HR0_4 := Aside0.mk hr0_4
  have HC0_4 := Aside0.mk hc0_4
  clear hr0_4 hc0_4
  have HR1_4 := Aside0.mk hr1_4
  have HC1_4 := Aside0.mk hc1_4
  clear hr1_4 hc1_4
  have HB := Aside0.mk (Below.refl w.heap.size w)
  have H : (if (a0_0 != a1_0) = true then (some false) else (if a0_1 = a1_1 then (if (a0_2 != a1_2) = true then (some false) else (if a0_3 = a1_3 then ((laws_eqByteS.f k l0_4 l1_4).bind fun t143 => (if t143 = true then (some true) else (some false))) else (some false))) else (some false))) = some r := h
  clear h
  by_cases c3 : (a0_0 != a1_0) = true
  · rw [if_pos c3] at H
    have c3b0 : (a0_0 != a1_0) = true := c3
    (try (have c3b1 : decide (a0_0 = a1_0) = false := by simpa using c3))
    (try (have c3b2 : (a0_0 == a1_0) = false := by simpa using c3))
    (try (have c3b3 : ¬ (a0_0 = a1_0) := by simpa using c3))
    clear c3
    obtain rfl := Option.some.inj H
    go_enter Try.func36, Try.ntmps36
    go_wp2_with (first | ((with_reducible refine gate_dst (N := 2) rfl ?_); refine box_event ?hg (N := 2) ?hd (cs := #[.bool a0_0, .int .u32 a0_1, .bool a0_2, .int .i64 a0_3, .slice A0_4 l0_4.length c0_4]) (t := 25) ?hr ?_; (case hd => rfl); (case hg => rfl); (case hr => first | (go_simp; done) | (go_simp; rfl)); intro gb141 hg w4 hbox hb; have n0_ := Aside0.mk (below_step (by repeat (first | (with_reducible first | exact HB.out | apply below_alloc | apply pw_below_drewN | apply below_drew1) | exact HB.out)) hb); have n1_ := Aside0.mk (hbox); have n2_ := Aside0.mk ((by rw [hg]; exact (below_size (by repeat (first | (with_reducible first | exact HB.out | apply below_alloc | apply pw_below_drewN | apply below_drew1) | exact HB.out))) : w.heap.size ≤ gb141)); have n3_ := Aside0.mk ((by rw [hg]; exact (below_size (by repeat (first | (with_reducible first | exact HB.out | apply below_alloc | apply pw_below_drewN | apply below_drew1) | exact HB.out))) : w.heap.size ≤ gb141)); clear HB; have HB := n0_; have BK141 := n1_; have GW141 := n2_; have GE141 := n3_; clear n0_ n1_ n2_ n3_; clear hb hbox hg) | ((with_reducible refine gate_dst (N := 3) rfl ?_); refine box_event ?hg (N := 3) ?hd (cs := #[.bool a1_0, .int .u32 a1_1, .bool a1_2, .int .i64 a1_3, .slice A1_4 l1_4.length c1_4]) (t := 25) ?hr ?_; (case hd => rfl); (case hg => rfl); (case hr => first | (go_simp; done) | (go_simp; rfl)); intro gb142 hg w5 hbox hb; have n0_ := Aside0.mk (blk_below (g := gb141) (o := .cells #[.bool a0_0, .int .u32 a0_1, .bool a0_2, .int .i64 a0_3, .slice A0_4 l0_4.length c0_4] 25 (0, 0)) (by (with_reducible repeat (first | refine blk_drewN ?_ _ | refine blk_drew ?_ | refine blk_alloc ?_ _)); exact BK141.out) hb); have n1_ := Aside0.mk (below_step (by repeat (first | (with_reducible first | exact HB.out | apply below_alloc | apply pw_below_drewN | apply below_drew1 | refine below_set ?_ GE141.out) | exact HB.out)) hb); have n2_ := Aside0.mk (hbox); have n3_ := Aside0.mk ((by rw [hg]; exact (below_size (by repeat (first | (with_reducible first | exact HB.out | apply below_alloc | apply pw_below_drewN | apply below_drew1 | refine below_set ?_ GE141.out) | exact HB.out))) : w.heap.size ≤ gb142)); have n4_ := Aside0.mk ((by rw [hg]; exact (below_size (by repeat (first | (with_reducible first | exact HB.out | apply below_alloc | apply pw_below_drewN | apply below_drew1 | refine below_set ?_ GE141.out) | exact HB.out))) : w.heap.size ≤ gb142)); have n5_ := Aside0.mk ((by rw [hg]; exact Nat.ne_of_lt (blk_lt (g := gb141) (o := .cells #[.bool a0_0, .int .u32 a0_1, .bool a0_2, .int .i64 a0_3, .slice A0_4 l0_4.length c0_4] 25 (0, 0)) (by (with_reducible repeat (first | refine blk_drewN ?_ _ | refine blk_drew ?_ | refine blk_alloc ?_ _)); exact BK141.out)) : gb141 ≠ gb142)); have n6_ := Aside0.mk ((by rw [hg]; exact Nat.ne_of_gt (blk_lt (g := gb141) (o := .cells #[.bool a0_0, .int .u32 a0_1, .bool a0_2, .int .i64 a0_3, .slice A0_4 l0_4.length c0_4] 25 (0, 0)) (by (with_reducible repeat (first | refine blk_drewN ?_ _ | refine blk_drew ?_ | refine blk_alloc ?_ _)); exact BK141.out)) : gb142 ≠ gb141)); clear BK141; clear HB; have BK141 := n0_; have HB := n1_; have BK142 := n2_; have GW142 := n3_; have GE142 := n4_; have NB141_142 := n5_; have NB142_141 := n6_; clear n0_ n1_ n2_ n3_ n4_ n5_ n6_; clear hb hbox hg; have hnb6 := NB141_142.out; have hnc6 := NB142_141.out; have hcz7_0 : w5.cell? ⟨gb141, 0, none⟩ = some (.bool a0_0) := (blk_cell BK141.out 0).trans rfl; have hcz7_1 : w5.cell? ⟨gb141, 1, none⟩ = some (.int .u32 a0_1) := (blk_cell BK141.out 1).trans rfl; have hcz7_2 : w5.cell? ⟨gb141, 2, none⟩ = some (.bool a0_2) := (blk_cell BK141.out 2).trans rfl; have hcz7_3 : w5.cell? ⟨gb141, 3, none⟩ = some (.int .i64 a0_3) := (blk_cell BK141.out 3).trans rfl; have hcz7_4 : w5.cell? ⟨gb141, 4, none⟩ = some (.slice A0_4 l0_4.length c0_4) := (blk_cell BK141.out 4).trans rfl; have hfz7_0 := blk_frozen BK141.out 0; have hfz7_1 := blk_frozen BK141.out 1; have hfz7_2 := blk_frozen BK141.out 2; have hfz7_3 := blk_frozen BK141.out 3; have hfz7_4 := blk_frozen BK141.out 4; have hcz8_0 : w5.cell? ⟨gb142, 0, none⟩ = some (.bool a1_0) := (blk_cell BK142.out 0).trans rfl; have hcz8_1 : w5.cell? ⟨gb142, 1, none⟩ = some (.int .u32 a1_1) := (blk_cell BK142.out 1).trans rfl; have hcz8_2 : w5.cell? ⟨gb142, 2, none⟩ = some (.bool a1_2) := (blk_cell BK142.out 2).trans rfl; have hcz8_3 : w5.cell? ⟨gb142, 3, none⟩ = some (.int .i64 a1_3) := (blk_cell BK142.out 3).trans rfl; have hcz8_4 : w5.cell? ⟨gb142, 4, none⟩ = some (.slice A1_4 l1_4.length c1_4) := (blk_cell BK142.out 4).trans rfl; have hfz8_0 := blk_frozen BK142.out 0; have hfz8_1 := blk_frozen BK142.out 1; have hfz8_2 := blk_frozen BK142.out 2; have hfz8_3 := blk_frozen BK142.out 3; have hfz8_4 := blk_frozen BK142.out 4))
    go_ret
    exact ⟨by first | rfl | (simp [errW_none, errW_some] <;> rfl) | (simp [*, errW_none, errW_some] <;> rfl), by repeat (first | (with_reducible first | exact HB.out | apply below_alloc | apply pw_below_drewN | apply below_drew1 | refine below_set ?_ GE141.out | refine below_set ?_ GE142.out) | exact HB.out)⟩
  · rw [if_neg c3] at H
    have c3b0 : (a0_0 != a1_0) = false := by simpa using c3
    (try (have c3b1 : decide (a0_0 = a1_0) = true := by simpa using c3))
    (try (have c3b2 : (a0_0 == a1_0) = true := by simpa using c3))
    clear c3
    by_cases c9 : a0_1 = a1_1
    · rw [if_pos c9] at H
      have c9b0 : (a0_1 == a1_1) = true := beq_iff_eq.mpr c9
      have c9b1 : (a0_1 != a1_1) = false := bne_eq_false_iff_eq.mpr c9
      clear c9
      by_cases c10 : (a0_2 != a1_2) = true
      · rw [if_pos c10] at H
        have c10b0 : (a0_2 != a1_2) = true := c10
        (try (have c10b1 : decide (a0_2 = a1_2) = false := by simpa using c10))
        (try (have c10b2 : (a0_2 == a1_2) = false := by simpa using c10))
        (try (have c10b3 : ¬ (a0_2 = a1_2) := by simpa using c10))
        clear c10
        obtain rfl := Option.some.inj H
        go_enter Try.func36, Try.ntmps36
        go_wp2_with (first | ((with_reducible refine gate_dst (N := 2) rfl ?_); refine box_event ?hg (N := 2) ?hd (cs := #[.bool a0_0, .int .u32 a0_1, .bool a0_2, .int .i64 a0_3, .slice A0_4 l0_4.length c0_4]) (t := 25) ?hr ?_; (case hd => rfl); (case hg => rfl); (case hr => first | (go_simp; done) | (go_simp; rfl)); intro gb141 hg w11 hbox hb; have n0_ := Aside0.mk (below_step (by repeat (first | (with_reducible first | exact HB.out | apply below_alloc | apply pw_below_drewN | apply below_drew1) | exact HB.out)) hb); have n1_ := Aside0.mk (hbox); have n2_ := Aside0.mk ((by rw [hg]; exact (below_size (by repeat (first | (with_reducible first | exact HB.out | apply below_alloc | apply pw_below_drewN | apply below_drew1) | exact HB.out))) : w.heap.size ≤ gb141)); have n3_ := Aside0.mk ((by rw [hg]; exact (below_size (by repeat (first | (with_reducible first | exact HB.out | apply below_alloc | apply pw_below_drewN | apply below_drew1) | exact HB.out))) : w.heap.size ≤ gb141)); clear HB; have HB := n0_; have BK141 := n1_; have GW141 := n2_; have GE141 := n3_; clear n0_ n1_ n2_ n3_; clear hb hbox hg) | ((with_reducible refine gate_dst (N := 3) rfl ?_); refine box_event ?hg (N := 3) ?hd (cs := #[.bool a1_0, .int .u32 a1_1, .bool a1_2, .int .i64 a1_3, .slice A1_4 l1_4.length c1_4]) (t := 25) ?hr ?_; (case hd => rfl); (case hg => rfl); (case hr => first | (go_simp; done) | (go_simp; rfl)); intro gb142 hg w12 hbox hb; have n0_ := Aside0.mk (blk_below (g := gb141) (o := .cells #[.bool a0_0, .int .u32 a0_1, .bool a0_2, .int .i64 a0_3, .slice A0_4 l0_4.length c0_4] 25 (0, 0)) (by (with_reducible repeat (first | refine blk_drewN ?_ _ | refine blk_drew ?_ | refine blk_alloc ?_ _)); exact BK141.out) hb); have n1_ := Aside0.mk (below_step (by repeat (first | (with_reducible first | exact HB.out | apply below_alloc | apply pw_below_drewN | apply below_drew1 | refine below_set ?_ GE141.out) | exact HB.out)) hb); have n2_ := Aside0.mk (hbox); have n3_ := Aside0.mk ((by rw [hg]; exact (below_size (by repeat (first | (with_reducible first | exact HB.out | apply below_alloc | apply pw_below_drewN | apply below_drew1 | refine below_set ?_ GE141.out) | exact HB.out))) : w.heap.size ≤ gb142)); have n4_ := Aside0.mk ((by rw [hg]; exact (below_size (by repeat (first | (with_reducible first | exact HB.out | apply below_alloc | apply pw_below_drewN | apply below_drew1 | refine below_set ?_ GE141.out) | exact HB.out))) : w.heap.size ≤ gb142)); have n5_ := Aside0.mk ((by rw [hg]; exact Nat.ne_of_lt (blk_lt (g := gb141) (o := .cells #[.bool a0_0, .int .u32 a0_1, .bool a0_2, .int .i64 a0_3, .slice A0_4 l0_4.length c0_4] 25 (0, 0)) (by (with_reducible repeat (first | refine blk_drewN ?_ _ | refine blk_drew ?_ | refine blk_alloc ?_ _)); exact BK141.out)) : gb141 ≠ gb142)); have n6_ := Aside0.mk ((by rw [hg]; exact Nat.ne_of_gt (blk_lt (g := gb141) (o := .cells #[.bool a0_0, .int .u32 a0_1, .bool a0_2, .int .i64 a0_3, .slice A0_4 l0_4.length c0_4] 25 (0, 0)) (by (with_reducible repeat (first | refine blk_drewN ?_ _ | refine blk_drew ?_ | refine blk_alloc ?_ _)); exact BK141.out)) : gb142 ≠ gb141)); clear BK141; clear HB; have BK141 := n0_; have HB := n1_; have BK142 := n2_; have GW142 := n3_; have GE142 := n4_; have NB141_142 := n5_; have NB142_141 := n6_; clear n0_ n1_ n2_ n3_ n4_ n5_ n6_; clear hb hbox hg; have hnb13 := NB141_142.out; have hnc13 := NB142_141.out; have hcz14_0 : w12.cell? ⟨gb141, 0, none⟩ = some (.bool a0_0) := (blk_cell BK141.out 0).trans rfl; have hcz14_1 : w12.cell? ⟨gb141, 1, none⟩ = some (.int .u32 a0_1) := (blk_cell BK141.out 1).trans rfl; have hcz14_2 : w12.cell? ⟨gb141, 2, none⟩ = some (.bool a0_2) := (blk_cell BK141.out 2).trans rfl; have hcz14_3 : w12.cell? ⟨gb141, 3, none⟩ = some (.int .i64 a0_3) := (blk_cell BK141.out 3).trans rfl; have hcz14_4 : w12.cell? ⟨gb141, 4, none⟩ = some (.slice A0_4 l0_4.length c0_4) := (blk_cell BK141.out 4).trans rfl; have hfz14_0 := blk_frozen BK141.out 0; have hfz14_1 := blk_frozen BK141.out 1; have hfz14_2 := blk_frozen BK141.out 2; have hfz14_3 := blk_frozen BK141.out 3; have hfz14_4 := blk_frozen BK141.out 4; have hcz15_0 : w12.cell? ⟨gb142, 0, none⟩ = some (.bool a1_0) := (blk_cell BK142.out 0).trans rfl; have hcz15_1 : w12.cell? ⟨gb142, 1, none⟩ = some (.int .u32 a1_1) := (blk_cell BK142.out 1).trans rfl; have hcz15_2 : w12.cell? ⟨gb142, 2, none⟩ = some (.bool a1_2) := (blk_cell BK142.out 2).trans rfl; have hcz15_3 : w12.cell? ⟨gb142, 3, none⟩ = some (.int .i64 a1_3) := (blk_cell BK142.out 3).trans rfl; have hcz15_4 : w12.cell? ⟨gb142, 4, none⟩ = some (.slice A1_4 l1_4.length c1_4) := (blk_cell BK142.out 4).trans rfl; have hfz15_0 := blk_frozen BK142.out 0; have hfz15_1 := blk_frozen BK142.out 1; have hfz15_2 := blk_frozen BK142.out 2; have hfz15_3 := blk_frozen BK142.out 3; have hfz15_4 := blk_frozen BK142.out 4))
        go_ret
        exact ⟨by first | rfl | (simp [errW_none, errW_some] <;> rfl) | (simp [*, errW_none, errW_some] <;> rfl), by repeat (first | (with_reducible first | exact HB.out | apply below_alloc | apply pw_below_drewN | apply below_drew1 | refine below_set ?_ GE141.out | refine below_set ?_ GE142.out) | exact HB.out)⟩
      · rw [if_neg c10] at H
        have c10b0 : (a0_2 != a1_2) = false := by simpa using c10
        (try (have c10b1 : decide (a0_2 = a1_2) = true := by simpa using c10))
        (try (have c10b2 : (a0_2 == a1_2) = true := by simpa using c10))
        clear c10
        by_cases c16 : a0_3 = a1_3
        · rw [if_pos c16] at H
          have c16b0 : (a0_3 == a1_3) = true := beq_iff_eq.mpr c16
          have c16b1 : (a0_3 != a1_3) = false := bne_eq_false_iff_eq.mpr c16
          clear c16
          replace H := Option.bind_eq_some_iff.mp H
          obtain ⟨t143, A170, H⟩ := H
          replace H : (if t143 = true then (some true) else (some false)) = some r := H
          have A17 := Aside0.mk A170
          clear A170
          by_cases c18 : t143 = true
          · subst c18
            have H1 : (some true) = some r := by rw [if_pos rfl] at H; exact H
            clear H
            have H := H1
            clear H1
            obtain rfl := Option.some.inj H
            go_enter Try.func36, Try.ntmps36
            go_wp2_with (first | ((with_reducible refine gate_dst (N := 2) rfl ?_); refine box_event ?hg (N := 2) ?hd (cs := #[.bool a0_0, .int .u32 a0_1, .bool a0_2, .int .i64 a0_3, .slice A0_4 l0_4.length c0_4]) (t := 25) ?hr ?_; (case hd => rfl); (case hg => rfl); (case hr => first | (go_simp; done) | (go_simp; rfl)); intro gb141 hg w19 hbox hb; have n0_ := Aside0.mk (below_step (by repeat (first | (with_reducible first | exact HB.out | apply below_alloc | apply pw_below_drewN | apply below_drew1) | exact HB.out)) hb); have n1_ := Aside0.mk (hbox); have n2_ := Aside0.mk ((by rw [hg]; exact (below_size (by repeat (first | (with_reducible first | exact HB.out | apply below_alloc | apply pw_below_drewN | apply below_drew1) | exact HB.out))) : w.heap.size ≤ gb141)); have n3_ := Aside0.mk ((by rw [hg]; exact (below_size (by repeat (first | (with_reducible first | exact HB.out | apply below_alloc | apply pw_below_drewN | apply below_drew1) | exact HB.out))) : w.heap.size ≤ gb141)); clear HB; have HB := n0_; have BK141 := n1_; have GW141 := n2_; have GE141 := n3_; clear n0_ n1_ n2_ n3_; clear hb hbox hg) | ((with_reducible refine gate_dst (N := 3) rfl ?_); refine box_event ?hg (N := 3) ?hd (cs := #[.bool a1_0, .int .u32 a1_1, .bool a1_2, .int .i64 a1_3, .slice A1_4 l1_4.length c1_4]) (t := 25) ?hr ?_; (case hd => rfl); (case hg => rfl); (case hr => first | (go_simp; done) | (go_simp; rfl)); intro gb142 hg w20 hbox hb; have n0_ := Aside0.mk (blk_below (g := gb141) (o := .cells #[.bool a0_0, .int .u32 a0_1, .bool a0_2, .int .i64 a0_3, .slice A0_4 l0_4.length c0_4] 25 (0, 0)) (by (with_reducible repeat (first | refine blk_drewN ?_ _ | refine blk_drew ?_ | refine blk_alloc ?_ _)); exact BK141.out) hb); have n1_ := Aside0.mk (below_step (by repeat (first | (with_reducible first | exact HB.out | apply below_alloc | apply pw_below_drewN | apply below_drew1 | refine below_set ?_ GE141.out) | exact HB.out)) hb); have n2_ := Aside0.mk (hbox); have n3_ := Aside0.mk ((by rw [hg]; exact (below_size (by repeat (first | (with_reducible first | exact HB.out | apply below_alloc | apply pw_below_drewN | apply below_drew1 | refine below_set ?_ GE141.out) | exact HB.out))) : w.heap.size ≤ gb142)); have n4_ := Aside0.mk ((by rw [hg]; exact (below_size (by repeat (first | (with_reducible first | exact HB.out | apply below_alloc | apply pw_below_drewN | apply below_drew1 | refine below_set ?_ GE141.out) | exact HB.out))) : w.heap.size ≤ gb142)); have n5_ := Aside0.mk ((by rw [hg]; exact Nat.ne_of_lt (blk_lt (g := gb141) (o := .cells #[.bool a0_0, .int .u32 a0_1, .bool a0_2, .int .i64 a0_3, .slice A0_4 l0_4.length c0_4] 25 (0, 0)) (by (with_reducible repeat (first | refine blk_drewN ?_ _ | refine blk_drew ?_ | refine blk_alloc ?_ _)); exact BK141.out)) : gb141 ≠ gb142)); have n6_ := Aside0.mk ((by rw [hg]; exact Nat.ne_of_gt (blk_lt (g := gb141) (o := .cells #[.bool a0_0, .int .u32 a0_1, .bool a0_2, .int .i64 a0_3, .slice A0_4 l0_4.length c0_4] 25 (0, 0)) (by (with_reducible repeat (first | refine blk_drewN ?_ _ | refine blk_drew ?_ | refine blk_alloc ?_ _)); exact BK141.out)) : gb142 ≠ gb141)); clear BK141; clear HB; have BK141 := n0_; have HB := n1_; have BK142 := n2_; have GW142 := n3_; have GE142 := n4_; have NB141_142 := n5_; have NB142_141 := n6_; clear n0_ n1_ n2_ n3_ n4_ n5_ n6_; clear hb hbox hg; have hnb21 := NB141_142.out; have hnc21 := NB142_141.out; have hcz22_0 : w20.cell? ⟨gb141, 0, none⟩ = some (.bool a0_0) := (blk_cell BK141.out 0).trans rfl; have hcz22_1 : w20.cell? ⟨gb141, 1, none⟩ = some (.int .u32 a0_1) := (blk_cell BK141.out 1).trans rfl; have hcz22_2 : w20.cell? ⟨gb141, 2, none⟩ = some (.bool a0_2) := (blk_cell BK141.out 2).trans rfl; have hcz22_3 : w20.cell? ⟨gb141, 3, none⟩ = some (.int .i64 a0_3) := (blk_cell BK141.out 3).trans rfl; have hcz22_4 : w20.cell? ⟨gb141, 4, none⟩ = some (.slice A0_4 l0_4.length c0_4) := (blk_cell BK141.out 4).trans rfl; have hfz22_0 := blk_frozen BK141.out 0; have hfz22_1 := blk_frozen BK141.out 1; have hfz22_2 := blk_frozen BK141.out 2; have hfz22_3 := blk_frozen BK141.out 3; have hfz22_4 := blk_frozen BK141.out 4; have hcz23_0 : w20.cell? ⟨gb142, 0, none⟩ = some (.bool a1_0) := (blk_cell BK142.out 0).trans rfl; have hcz23_1 : w20.cell? ⟨gb142, 1, none⟩ = some (.int .u32 a1_1) := (blk_cell BK142.out 1).trans rfl; have hcz23_2 : w20.cell? ⟨gb142, 2, none⟩ = some (.bool a1_2) := (blk_cell BK142.out 2).trans rfl; have hcz23_3 : w20.cell? ⟨gb142, 3, none⟩ = some (.int .i64 a1_3) := (blk_cell BK142.out 3).trans rfl; have hcz23_4 : w20.cell? ⟨gb142, 4, none⟩ = some (.slice A1_4 l1_4.length c1_4) := (blk_cell BK142.out 4).trans rfl; have hfz23_0 := blk_frozen BK142.out 0; have hfz23_1 := blk_frozen BK142.out 1; have hfz23_2 := blk_frozen BK142.out 2; have hfz23_3 := blk_frozen BK142.out 3; have hfz23_4 := blk_frozen BK142.out 4) | ((with_reducible refine gate_callee (f := 94) rfl ?_); refine goesL_ (some 29) rfl rfl Try.func94 (by kernel_rfl) rfl #[.slice A0_4 l0_4.length c0_4, .slice A1_4 l1_4.length c1_4] rfl (by (try simp only [List.map_toArray, List.map_cons, List.map_nil]); first | done | rfl | (simp only [List.length_drop, List.length_take]; rfl)) ?_; (with_reducible refine (laws_eqByteS.calls k _ _ l0_4 _ _ l1_4 true _ ?side1 ?side2 ?side3 ?side4 A17.out).mono ?_); (case side1 => repeat (first | exact (Kd.C_below HR0_4.out HB.out) | (with_reducible refine Kd.C_alloc ?_ _) | (with_reducible refine Kd.C_drewN ?_ _) | (with_reducible refine Kd.C_drew ?_))); (case side2 => exact HC0_4.out); (case side3 => repeat (first | exact (Kd.C_below HR1_4.out HB.out) | (with_reducible refine Kd.C_alloc ?_ _) | (with_reducible refine Kd.C_drewN ?_ _) | (with_reducible refine Kd.C_drew ?_))); (case side4 => exact HC1_4.out); rintro e w' ⟨rfl, ⟨nd, rfl⟩⟩; refine ⟨_, rfl, ?_⟩))
            go_ret
            exact ⟨by first | rfl | (simp [errW_none, errW_some] <;> rfl) | (simp [*, errW_none, errW_some] <;> rfl), by repeat (first | (with_reducible first | exact HB.out | apply below_alloc | apply pw_below_drewN | apply below_drew1 | refine below_set ?_ GE141.out | refine below_set ?_ GE142.out) | exact HB.out)⟩
          · replace c18 := Bool.eq_false_iff.mpr c18
            subst c18
            have H1 : (some false) = some r := by rw [if_neg (show ¬ (false = true) by decide)] at H; exact H
            clear H
            have H := H1
            clear H1
            obtain rfl := Option.some.inj H
            go_enter Try.func36, Try.ntmps36
            go_wp2_with (first | ((with_reducible refine gate_dst (N := 2) rfl ?_); refine box_event ?hg (N := 2) ?hd (cs := #[.bool a0_0, .int .u32 a0_1, .bool a0_2, .int .i64 a0_3, .slice A0_4 l0_4.length c0_4]) (t := 25) ?hr ?_; (case hd => rfl); (case hg => rfl); (case hr => first | (go_simp; done) | (go_simp; rfl)); intro gb141 hg w24 hbox hb; have n0_ := Aside0.mk (below_step (by repeat (first | (with_reducible first | exact HB.out | apply below_alloc | apply pw_below_drewN | apply below_drew1) | exact HB.out)) hb); have n1_ := Aside0.mk (hbox); have n2_ := Aside0.mk ((by rw [hg]; exact (below_size (by repeat (first | (with_reducible first | exact HB.out | apply below_alloc | apply pw_below_drewN | apply below_drew1) | exact HB.out))) : w.heap.size ≤ gb141)); have n3_ := Aside0.mk ((by rw [hg]; exact (below_size (by repeat (first | (with_reducible first | exact HB.out | apply below_alloc | apply pw_below_drewN | apply below_drew1) | exact HB.out))) : w.heap.size ≤ gb141)); clear HB; have HB := n0_; have BK141 := n1_; have GW141 := n2_; have GE141 := n3_; clear n0_ n1_ n2_ n3_; clear hb hbox hg) | ((with_reducible refine gate_dst (N := 3) rfl ?_); refine box_event ?hg (N := 3) ?hd (cs := #[.bool a1_0, .int .u32 a1_1, .bool a1_2, .int .i64 a1_3, .slice A1_4 l1_4.length c1_4]) (t := 25) ?hr ?_; (case hd => rfl); (case hg => rfl); (case hr => first | (go_simp; done) | (go_simp; rfl)); intro gb142 hg w25 hbox hb; have n0_ := Aside0.mk (blk_below (g := gb141) (o := .cells #[.bool a0_0, .int .u32 a0_1, .bool a0_2, .int .i64 a0_3, .slice A0_4 l0_4.length c0_4] 25 (0, 0)) (by (with_reducible repeat (first | refine blk_drewN ?_ _ | refine blk_drew ?_ | refine blk_alloc ?_ _)); exact BK141.out) hb); have n1_ := Aside0.mk (below_step (by repeat (first | (with_reducible first | exact HB.out | apply below_alloc | apply pw_below_drewN | apply below_drew1 | refine below_set ?_ GE141.out) | exact HB.out)) hb); have n2_ := Aside0.mk (hbox); have n3_ := Aside0.mk ((by rw [hg]; exact (below_size (by repeat (first | (with_reducible first | exact HB.out | apply below_alloc | apply pw_below_drewN | apply below_drew1 | refine below_set ?_ GE141.out) | exact HB.out))) : w.heap.size ≤ gb142)); have n4_ := Aside0.mk ((by rw [hg]; exact (below_size (by repeat (first | (with_reducible first | exact HB.out | apply below_alloc | apply pw_below_drewN | apply below_drew1 | refine below_set ?_ GE141.out) | exact HB.out))) : w.heap.size ≤ gb142)); have n5_ := Aside0.mk ((by rw [hg]; exact Nat.ne_of_lt (blk_lt (g := gb141) (o := .cells #[.bool a0_0, .int .u32 a0_1, .bool a0_2, .int .i64 a0_3, .slice A0_4 l0_4.length c0_4] 25 (0, 0)) (by (with_reducible repeat (first | refine blk_drewN ?_ _ | refine blk_drew ?_ | refine blk_alloc ?_ _)); exact BK141.out)) : gb141 ≠ gb142)); have n6_ := Aside0.mk ((by rw [hg]; exact Nat.ne_of_gt (blk_lt (g := gb141) (o := .cells #[.bool a0_0, .int .u32 a0_1, .bool a0_2, .int .i64 a0_3, .slice A0_4 l0_4.length c0_4] 25 (0, 0)) (by (with_reducible repeat (first | refine blk_drewN ?_ _ | refine blk_drew ?_ | refine blk_alloc ?_ _)); exact BK141.out)) : gb142 ≠ gb141)); clear BK141; clear HB; have BK141 := n0_; have HB := n1_; have BK142 := n2_; have GW142 := n3_; have GE142 := n4_; have NB141_142 := n5_; have NB142_141 := n6_; clear n0_ n1_ n2_ n3_ n4_ n5_ n6_; clear hb hbox hg; have hnb26 := NB141_142.out; have hnc26 := NB142_141.out; have hcz27_0 : w25.cell? ⟨gb141, 0, none⟩ = some (.bool a0_0) := (blk_cell BK141.out 0).trans rfl; have hcz27_1 : w25.cell? ⟨gb141, 1, none⟩ = some (.int .u32 a0_1) := (blk_cell BK141.out 1).trans rfl; have hcz27_2 : w25.cell? ⟨gb141, 2, none⟩ = some (.bool a0_2) := (blk_cell BK141.out 2).trans rfl; have hcz27_3 : w25.cell? ⟨gb141, 3, none⟩ = some (.int .i64 a0_3) := (blk_cell BK141.out 3).trans rfl; have hcz27_4 : w25.cell? ⟨gb141, 4, none⟩ = some (.slice A0_4 l0_4.length c0_4) := (blk_cell BK141.out 4).trans rfl; have hfz27_0 := blk_frozen BK141.out 0; have hfz27_1 := blk_frozen BK141.out 1; have hfz27_2 := blk_frozen BK141.out 2; have hfz27_3 := blk_frozen BK141.out 3; have hfz27_4 := blk_frozen BK141.out 4; have hcz28_0 : w25.cell? ⟨gb142, 0, none⟩ = some (.bool a1_0) := (blk_cell BK142.out 0).trans rfl; have hcz28_1 : w25.cell? ⟨gb142, 1, none⟩ = some (.int .u32 a1_1) := (blk_cell BK142.out 1).trans rfl; have hcz28_2 : w25.cell? ⟨gb142, 2, none⟩ = some (.bool a1_2) := (blk_cell BK142.out 2).trans rfl; have hcz28_3 : w25.cell? ⟨gb142, 3, none⟩ = some (.int .i64 a1_3) := (blk_cell BK142.out 3).trans rfl; have hcz28_4 : w25.cell? ⟨gb142, 4, none⟩ = some (.slice A1_4 l1_4.length c1_4) := (blk_cell BK142.out 4).trans rfl; have hfz28_0 := blk_frozen BK142.out 0; have hfz28_1 := blk_frozen BK142.out 1; have hfz28_2 := blk_frozen BK142.out 2; have hfz28_3 := blk_frozen BK142.out 3; have hfz28_4 := blk_frozen BK142.out 4) | ((with_reducible refine gate_callee (f := 94) rfl ?_); refine goesL_ (some 29) rfl rfl Try.func94 (by kernel_rfl) rfl #[.slice A0_4 l0_4.length c0_4, .slice A1_4 l1_4.length c1_4] rfl (by (try simp only [List.map_toArray, List.map_cons, List.map_nil]); first | done | rfl | (simp only [List.length_drop, List.length_take]; rfl)) ?_; (with_reducible refine (laws_eqByteS.calls k _ _ l0_4 _ _ l1_4 false _ ?side1 ?side2 ?side3 ?side4 A17.out).mono ?_); (case side1 => repeat (first | exact (Kd.C_below HR0_4.out HB.out) | (with_reducible refine Kd.C_alloc ?_ _) | (with_reducible refine Kd.C_drewN ?_ _) | (with_reducible refine Kd.C_drew ?_))); (case side2 => exact HC0_4.out); (case side3 => repeat (first | exact (Kd.C_below HR1_4.out HB.out) | (with_reducible refine Kd.C_alloc ?_ _) | (with_reducible refine Kd.C_drewN ?_ _) | (with_reducible refine Kd.C_drew ?_))); (case side4 => exact HC1_4.out); rintro e w' ⟨rfl, ⟨nd, rfl⟩⟩; refine ⟨_, rfl, ?_⟩))
            go_ret
            exact ⟨by first | rfl | (simp [errW_none, errW_some] <;> rfl) | (simp [*, errW_none, errW_some] <;> rfl), by repeat (first | (with_reducible first | exact HB.out | apply below_alloc | apply pw_below_drewN | apply below_drew1 | refine below_set ?_ GE141.out | refine below_set ?_ GE142.out) | exact HB.out)⟩
        · rw [if_neg c16] at H
          have c16b0 : (a0_3 == a1_3) = false := beq_eq_false_iff_ne.mpr c16
          have c16b1 : (a0_3 != a1_3) = true := bne_iff_ne.mpr c16
          obtain rfl := Option.some.inj H
          go_enter Try.func36, Try.ntmps36
          go_wp2_with (first | ((with_reducible refine gate_dst (N := 2) rfl ?_); refine box_event ?hg (N := 2) ?hd (cs := #[.bool a0_0, .int .u32 a0_1, .bool a0_2, .int .i64 a0_3, .slice A0_4 l0_4.length c0_4]) (t := 25) ?hr ?_; (case hd => rfl); (case hg => rfl); (case hr => first | (go_simp; done) | (go_simp; rfl)); intro gb141 hg w29 hbox hb; have n0_ := Aside0.mk (below_step (by repeat (first | (with_reducible first | exact HB.out | apply below_alloc | apply pw_below_drewN | apply below_drew1) | exact HB.out)) hb); have n1_ := Aside0.mk (hbox); have n2_ := Aside0.mk ((by rw [hg]; exact (below_size (by repeat (first | (with_reducible first | exact HB.out | apply below_alloc | apply pw_below_drewN | apply below_drew1) | exact HB.out))) : w.heap.size ≤ gb141)); have n3_ := Aside0.mk ((by rw [hg]; exact (below_size (by repeat (first | (with_reducible first | exact HB.out | apply below_alloc | apply pw_below_drewN | apply below_drew1) | exact HB.out))) : w.heap.size ≤ gb141)); clear HB; have HB := n0_; have BK141 := n1_; have GW141 := n2_; have GE141 := n3_; clear n0_ n1_ n2_ n3_; clear hb hbox hg) | ((with_reducible refine gate_dst (N := 3) rfl ?_); refine box_event ?hg (N := 3) ?hd (cs := #[.bool a1_0, .int .u32 a1_1, .bool a1_2, .int .i64 a1_3, .slice A1_4 l1_4.length c1_4]) (t := 25) ?hr ?_; (case hd => rfl); (case hg => rfl); (case hr => first | (go_simp; done) | (go_simp; rfl)); intro gb142 hg w30 hbox hb; have n0_ := Aside0.mk (blk_below (g := gb141) (o := .cells #[.bool a0_0, .int .u32 a0_1, .bool a0_2, .int .i64 a0_3, .slice A0_4 l0_4.length c0_4] 25 (0, 0)) (by (with_reducible repeat (first | refine blk_drewN ?_ _ | refine blk_drew ?_ | refine blk_alloc ?_ _)); exact BK141.out) hb); have n1_ := Aside0.mk (below_step (by repeat (first | (with_reducible first | exact HB.out | apply below_alloc | apply pw_below_drewN | apply below_drew1 | refine below_set ?_ GE141.out) | exact HB.out)) hb); have n2_ := Aside0.mk (hbox); have n3_ := Aside0.mk ((by rw [hg]; exact (below_size (by repeat (first | (with_reducible first | exact HB.out | apply below_alloc | apply pw_below_drewN | apply below_drew1 | refine below_set ?_ GE141.out) | exact HB.out))) : w.heap.size ≤ gb142)); have n4_ := Aside0.mk ((by rw [hg]; exact (below_size (by repeat (first | (with_reducible first | exact HB.out | apply below_alloc | apply pw_below_drewN | apply below_drew1 | refine below_set ?_ GE141.out) | exact HB.out))) : w.heap.size ≤ gb142)); have n5_ := Aside0.mk ((by rw [hg]; exact Nat.ne_of_lt (blk_lt (g := gb141) (o := .cells #[.bool a0_0, .int .u32 a0_1, .bool a0_2, .int .i64 a0_3, .slice A0_4 l0_4.length c0_4] 25 (0, 0)) (by (with_reducible repeat (first | refine blk_drewN ?_ _ | refine blk_drew ?_ | refine blk_alloc ?_ _)); exact BK141.out)) : gb141 ≠ gb142)); have n6_ := Aside0.mk ((by rw [hg]; exact Nat.ne_of_gt (blk_lt (g := gb141) (o := .cells #[.bool a0_0, .int .u32 a0_1, .bool a0_2, .int .i64 a0_3, .slice A0_4 l0_4.length c0_4] 25 (0, 0)) (by (with_reducible repeat (first | refine blk_drewN ?_ _ | refine blk_drew ?_ | refine blk_alloc ?_ _)); exact BK141.out)) : gb142 ≠ gb141)); clear BK141; clear HB; have BK141 := n0_; have HB := n1_; have BK142 := n2_; have GW142 := n3_; have GE142 := n4_; have NB141_142 := n5_; have NB142_141 := n6_; clear n0_ n1_ n2_ n3_ n4_ n5_ n6_; clear hb hbox hg; have hnb31 := NB141_142.out; have hnc31 := NB142_141.out; have hcz32_0 : w30.cell? ⟨gb141, 0, none⟩ = some (.bool a0_0) := (blk_cell BK141.out 0).trans rfl; have hcz32_1 : w30.cell? ⟨gb141, 1, none⟩ = some (.int .u32 a0_1) := (blk_cell BK141.out 1).trans rfl; have hcz32_2 : w30.cell? ⟨gb141, 2, none⟩ = some (.bool a0_2) := (blk_cell BK141.out 2).trans rfl; have hcz32_3 : w30.cell? ⟨gb141, 3, none⟩ = some (.int .i64 a0_3) := (blk_cell BK141.out 3).trans rfl; have hcz32_4 : w30.cell? ⟨gb141, 4, none⟩ = some (.slice A0_4 l0_4.length c0_4) := (blk_cell BK141.out 4).trans rfl; have hfz32_0 := blk_frozen BK141.out 0; have hfz32_1 := blk_frozen BK141.out 1; have hfz32_2 := blk_frozen BK141.out 2; have hfz32_3 := blk_frozen BK141.out 3; have hfz32_4 := blk_frozen BK141.out 4; have hcz33_0 : w30.cell? ⟨gb142, 0, none⟩ = some (.bool a1_0) := (blk_cell BK142.out 0).trans rfl; have hcz33_1 : w30.cell? ⟨gb142, 1, none⟩ = some (.int .u32 a1_1) := (blk_cell BK142.out 1).trans rfl; have hcz33_2 : w30.cell? ⟨gb142, 2, none⟩ = some (.bool a1_2) := (blk_cell BK142.out 2).trans rfl; have hcz33_3 : w30.cell? ⟨gb142, 3, none⟩ = some (.int .i64 a1_3) := (blk_cell BK142.out 3).trans rfl; have hcz33_4 : w30.cell? ⟨gb142, 4, none⟩ = some (.slice A1_4 l1_4.length c1_4) := (blk_cell BK142.out 4).trans rfl; have hfz33_0 := blk_frozen BK142.out 0; have hfz33_1 := blk_frozen BK142.out 1; have hfz33_2 := blk_frozen BK142.out 2; have hfz33_3 := blk_frozen BK142.out 3; have hfz33_4 := blk_frozen BK142.out 4))
          go_ret
          exact ⟨by first | rfl | (simp [errW_none, errW_some] <;> rfl) | (simp [*, errW_none, errW_some] <;> rfl), by repeat (first | (with_reducible first | exact HB.out | apply below_alloc | apply pw_below_drewN | apply below_drew1 | refine below_set ?_ GE141.out | refine below_set ?_ GE142.out) | exact HB.out)⟩
    · rw [if_neg c9] at H
      have c9b0 : (a0_1 == a1_1) = false := beq_eq_false_iff_ne.mpr c9
      have c9b1 : (a0_1 != a1_1) = true := bne_iff_ne.mpr c9
      obtain rfl := Option.some.inj H
      go_enter Try.func36, Try.ntmps36
      go_wp2_with (first | ((with_reducible refine gate_dst (N := 2) rfl ?_); refine box_event ?hg (N := 2) ?hd (cs := #[.bool a0_0, .int .u32 a0_1, .bool a0_2, .int .i64 a0_3, .slice A0_4 l0_4.length c0_4]) (t := 25) ?hr ?_; (case hd => rfl); (case hg => rfl); (case hr => first | (go_simp; done) | (go_simp; rfl)); intro gb141 hg w34 hbox hb; have n0_ := Aside0.mk (below_step (by repeat (first | (with_reducible first | exact HB.out | apply below_alloc | apply pw_below_drewN | apply below_drew1) | exact HB.out)) hb); have n1_ := Aside0.mk (hbox); have n2_ := Aside0.mk ((by rw [hg]; exact (below_size (by repeat (first | (with_reducible first | exact HB.out | apply below_alloc | apply pw_below_drewN | apply below_drew1) | exact HB.out))) : w.heap.size ≤ gb141)); have n3_ := Aside0.mk ((by rw [hg]; exact (below_size (by repeat (first | (with_reducible first | exact HB.out | apply below_alloc | apply pw_below_drewN | apply below_drew1) | exact HB.out))) : w.heap.size ≤ gb141)); clear HB; have HB := n0_; have BK141 := n1_; have GW141 := n2_; have GE141 := n3_; clear n0_ n1_ n2_ n3_; clear hb hbox hg) | ((with_reducible refine gate_dst (N := 3) rfl ?_); refine box_event ?hg (N := 3) ?hd (cs := #[.bool a1_0, .int .u32 a1_1, .bool a1_2, .int .i64 a1_3, .slice A1_4 l1_4.length c1_4]) (t := 25) ?hr ?_; (case hd => rfl); (case hg => rfl); (case hr => first | (go_simp; done) | (go_simp; rfl)); intro gb142 hg w35 hbox hb; have n0_ := Aside0.mk (blk_below (g := gb141) (o := .cells #[.bool a0_0, .int .u32 a0_1, .bool a0_2, .int .i64 a0_3, .slice A0_4 l0_4.length c0_4] 25 (0, 0)) (by (with_reducible repeat (first | refine blk_drewN ?_ _ | refine blk_drew ?_ | refine blk_alloc ?_ _)); exact BK141.out) hb); have n1_ := Aside0.mk (below_step (by repeat (first | (with_reducible first | exact HB.out | apply below_alloc | apply pw_below_drewN | apply below_drew1 | refine below_set ?_ GE141.out) | exact HB.out)) hb); have n2_ := Aside0.mk (hbox); have n3_ := Aside0.mk ((by rw [hg]; exact (below_size (by repeat (first | (with_reducible first | exact HB.out | apply below_alloc | apply pw_below_drewN | apply below_drew1 | refine below_set ?_ GE141.out) | exact HB.out))) : w.heap.size ≤ gb142)); have n4_ := Aside0.mk ((by rw [hg]; exact (below_size (by repeat (first | (with_reducible first | exact HB.out | apply below_alloc | apply pw_below_drewN | apply below_drew1 | refine below_set ?_ GE141.out) | exact HB.out))) : w.heap.size ≤ gb142)); have n5_ := Aside0.mk ((by rw [hg]; exact Nat.ne_of_lt (blk_lt (g := gb141) (o := .cells #[.bool a0_0, .int .u32 a0_1, .bool a0_2, .int .i64 a0_3, .slice A0_4 l0_4.length c0_4] 25 (0, 0)) (by (with_reducible repeat (first | refine blk_drewN ?_ _ | refine blk_drew ?_ | refine blk_alloc ?_ _)); exact BK141.out)) : gb141 ≠ gb142)); have n6_ := Aside0.mk ((by rw [hg]; exact Nat.ne_of_gt (blk_lt (g := gb141) (o := .cells #[.bool a0_0, .int .u32 a0_1, .bool a0_2, .int .i64 a0_3, .slice A0_4 l0_4.length c0_4] 25 (0, 0)) (by (with_reducible repeat (first | refine blk_drewN ?_ _ | refine blk_drew ?_ | refine blk_alloc ?_ _)); exact BK141.out)) : gb142 ≠ gb141)); clear BK141; clear HB; have BK141 := n0_; have HB := n1_; have BK142 := n2_; have GW142 := n3_; have GE142 := n4_; have NB141_142 := n5_; have NB142_141 := n6_; clear n0_ n1_ n2_ n3_ n4_ n5_ n6_; clear hb hbox hg; have hnb36 := NB141_142.out; have hnc36 := NB142_141.out; have hcz37_0 : w35.cell? ⟨gb141, 0, none⟩ = some (.bool a0_0) := (blk_cell BK141.out 0).trans rfl; have hcz37_1 : w35.cell? ⟨gb141, 1, none⟩ = some (.int .u32 a0_1) := (blk_cell BK141.out 1).trans rfl; have hcz37_2 : w35.cell? ⟨gb141, 2, none⟩ = some (.bool a0_2) := (blk_cell BK141.out 2).trans rfl; have hcz37_3 : w35.cell? ⟨gb141, 3, none⟩ = some (.int .i64 a0_3) := (blk_cell BK141.out 3).trans rfl; have hcz37_4 : w35.cell? ⟨gb141, 4, none⟩ = some (.slice A0_4 l0_4.length c0_4) := (blk_cell BK141.out 4).trans rfl; have hfz37_0 := blk_frozen BK141.out 0; have hfz37_1 := blk_frozen BK141.out 1; have hfz37_2 := blk_frozen BK141.out 2; have hfz37_3 := blk_frozen BK141.out 3; have hfz37_4 := blk_frozen BK141.out 4; have hcz38_0 : w35.cell? ⟨gb142, 0, none⟩ = some (.bool a1_0) := (blk_cell BK142.out 0).trans rfl; have hcz38_1 : w35.cell? ⟨gb142, 1, none⟩ = some (.int .u32 a1_1) := (blk_cell BK142.out 1).trans rfl; have hcz38_2 : w35.cell? ⟨gb142, 2, none⟩ = some (.bool a1_2) := (blk_cell BK142.out 2).trans rfl; have hcz38_3 : w35.cell? ⟨gb142, 3, none⟩ = some (.int .i64 a1_3) := (blk_cell BK142.out 3).trans rfl; have hcz38_4 : w35.cell? ⟨gb142, 4, none⟩ = some (.slice A1_4 l1_4.length c1_4) := (blk_cell BK142.out 4).trans rfl; have hfz38_0 := blk_frozen BK142.out 0; have hfz38_1 := blk_frozen BK142.out 1; have hfz38_2 := blk_frozen BK142.out 2; have hfz38_3 := blk_frozen BK142.out 3; have hfz38_4 := blk_frozen BK142.out 4))
      go_ret
      exact ⟨by first | rfl | (simp [errW_none, errW_some] <;> rfl) | (simp [*, errW_none, errW_some] <;> rfl), by repeat (first | (with_reducible first | exact HB.out | apply below_alloc | apply pw_below_drewN | apply below_drew1 | refine below_set ?_ GE141.out | refine below_set ?_ GE142.out) | exact HB.out)⟩
end Go.Proofs.Ytdoclpgciadjaaa.P

namespace Go.Proofs.Ytdoclpgciadjaaa.P
open Go.RowKit Go.Proofs.YtdoclpgciadjaaaW.PrintWords Go.Proofs.YtdoclpgciadjaaaW.PrintLast Go.Proofs.YtdoclpgciadjaaaW.PrintMore
set_option linter.unusedVariables false
set_option linter.unusedSimpArgs false
def laws_markByteS.l0 : Nat → List Int → Int → Int → Option (Int × List Int)
  | 0, _, _, _ => none
  | k + 1, x0, x1, x5 => if x5 < (x0.length : Int) then (if 0 ≤ x5 then (laws_markByteS.l0 k (x0.set (x5 : Int).toNat ((x1) % 256)) (wrap64 (x1 + 1)) (wrap64 (x5 + 1))) else (none)) else (some (x1, x0))
def laws_markByteS.f (k : Nat) (l0 : List Int) (a1 : Int) : Option (Int × List Int) := laws_markByteS.l0 k l0 a1 0
theorem laws_markByteS.mono_l : ∀ k, (∀ y0 y1 y2, LeO (laws_markByteS.l0 k y0 y1 y2) (laws_markByteS.l0 (k + 1) y0 y1 y2))
  | 0 => fun _ _ _ r h => by simp [laws_markByteS.l0] at h
  | k + 1 => by
    have ih0 := laws_markByteS.mono_l k
    · intro y0 y1 y2
      unfold laws_markByteS.l0
      repeat' first
      | (with_reducible exact ih0 _ _ _)
      | (with_reducible exact LeO.refl _)
      | (with_reducible exact LeO.none _)
      | (with_reducible refine LeO.ite ?_ ?_)
      | (with_reducible refine LeO.bind ?_ (fun _ => ?_))
      | exact ih0 _ _ _
      | exact LeO.none _
      | refine LeO.ite ?_ ?_
      | refine LeO.bind ?_ (fun _ => ?_)
theorem laws_markByteS.mono : ∀ a0 a1 k, LeO (laws_markByteS.f k a0 a1) (laws_markByteS.f (k + 1) a0 a1) := by
  intro a0 a1 k
  have ih0 := laws_markByteS.mono_l k
  unfold laws_markByteS.f
  repeat' first
      | (with_reducible exact ih0 _ _ _)
      | (with_reducible exact LeO.refl _)
      | (with_reducible exact LeO.none _)
      | (with_reducible refine LeO.ite ?_ ?_)
      | (with_reducible refine LeO.bind ?_ (fun _ => ?_))
      | exact ih0 _ _ _
      | exact LeO.none _
      | refine LeO.ite ?_ ?_
      | refine LeO.bind ?_ (fun _ => ?_)
set_option maxHeartbeats 8000000 in
set_option maxRecDepth 100000 in
theorem laws_markByteS.calls (k : Nat) (P0_ : Nat → Prop) (u9000_ : Value) (l0 : List Int) (a1 : Int) (r1 : Int) (r2 : List Int) (w0 w : World) (hB : Below w0.heap.size w0 w) (ho0 : Kd.R (Kd.int .u8) 5 w w0.heap.size P0_ u9000_ l0) (h : laws_markByteS.f k l0 a1 = some (r1, r2)) :
    Calls Try.prog 95 #[u9000_, .int .i64 a1] w fun e w' => e = .returned (.int .i64 r1) ∧ Kd.R (Kd.int .u8) 5 w' w0.heap.size (fun k_ => (P0_ k_ ∨ w.heap.size ≤ k_)) u9000_ r2 ∧ Below w0.heap.size w0 w' ∧ Kept w w' (fun k_ => P0_ k_) := by
  have HO0 := Aside0.mk (show Kd.R (Kd.int .u8) 5 w w0.heap.size (fun k_ => (P0_ k_ ∨ w.heap.size ≤ k_)) u9000_ l0 from Kd.R_mono ho0 (fun k_ hk => (.inl hk)))
  have HK := Aside0.mk (Kept.refl w (fun k_ => P0_ k_))
  have HW0 := Aside0.mk hB.size
  have HB := Aside0.mk hB
  clear hB
  have H : (laws_markByteS.l0 k l0 a1 0) = some (r1, r2) := h
  clear h
  have H' := Aside0.mk H
  clear H
  go_enter Try.func95, Try.ntmps95
  go_wp2
  go_loopg [1, 5] k (fun kq v1 v5 w' => ∃ (x0_1 : List Int) (x1_1 : Int) (x5_1 : Int), v1 = .int .i64 x1_1 ∧ v5 = .int .i64 x5_1 ∧ Aside0 (laws_markByteS.l0 kq x0_1 x1_1 x5_1 = some (r1, r2)) ∧ Aside0 (kq ≤ k) ∧ Aside0 (Kd.R (Kd.int .u8) 5 w' w0.heap.size (fun k_ => (P0_ k_ ∨ w.heap.size ≤ k_)) u9000_ x0_1) ∧ Aside0 (Kept w w' (fun k_ => P0_ k_)) ∧ Aside0 (Below w0.heap.size w0 w'))
  case atStart => exact ⟨(l0), (a1), (0), (by first | rfl | (simp; done) | (simp [*]; done)), (by first | rfl | (simp; done) | (simp [*]; done)), H', ⟨Nat.le_refl _⟩, ⟨by (with_reducible repeat (first | apply Kd.R_alloc | apply Kd.R_drewN | apply Kd.R_drew)); exact HO0.out⟩, ⟨by repeat (first | (with_reducible first | exact HK.out | apply Kept.alloc | apply Kept.drewN | apply Kept.drew) | exact HK.out)⟩, ⟨by repeat (first | (with_reducible first | exact HB.out | apply below_alloc | apply pw_below_drewN | apply below_drew1) | exact HB.out)⟩⟩
  case round =>
    clear H'
    try clear p2
    obtain ⟨x0_1, x1_1, x5_1, rfl, rfl, HA, HK1, HO_0, HK, HB⟩ := hrel
    cases gk with
    | zero => exact absurd HA.out (by simp [laws_markByteS.l0])
    | succ k1 =>
      have H := HA.out
      clear HA
      simp only [laws_markByteS.l0] at H
      by_cases c3 : x5_1 < (x0_1.length : Int)
      · rw [if_pos c3] at H
        have c3b0 : decide (x5_1 < (x0_1.length : Int)) = true := decide_eq_true c3
        clear c3
        by_cases c4 : 0 ≤ x5_1
        · rw [if_pos c4] at H
          have c4b0 : decide (0 ≤ x5_1) = true := decide_eq_true c4
          clear c4
          obtain ⟨y144, hy144⟩ : ∃ y_ : List Int, y_ = (x0_1.set (x5_1 : Int).toNat ((x1_1) % 256)) := ⟨_, rfl⟩
          replace H : (laws_markByteS.l0 k1 y144 (wrap64 (x1_1 + 1)) (wrap64 (x5_1 + 1))) = some (r1, r2) := by first | (rw [hy144]; with_reducible exact H) | (have H2_ := (Option.bind_some _ _).symm.trans H; rw [hy144]; with_reducible exact H2_) | (have H2_ := (Option.bind_some _ _).symm.trans H; with_reducible exact H2_) | with_reducible exact H | (rw [hy144]; exact H) | exact H
          have Ny144 := Aside0.mk hy144
          clear hy144
          have H' := Aside0.mk H
          clear H
          obtain ⟨Ao6, co6, eo6⟩ := Kd.R_slice HO_0.out
          subst eo6
          have p5 : 0 ≤ (x5_1 : Int) := of_decide_eq_true (by first | (with_reducible assumption) | assumption)
          have q5 : (x5_1 : Int) < ((x0_1.length : Int) : Int) := of_decide_eq_true (by first | (with_reducible assumption) | assumption)
          obtain ⟨go5, co5, eo5, gb5, gl5, cl5, HG5⟩ := Kd.R_form HO_0.out (by omega)
          (first | cases eo5 | (injection eo5 with ea_ en_ ec_; (first | subst ea_ | (injection ea_ with ea_; subst ea_)); subst ec_; clear en_))
          have GB5 := Aside0.mk gb5
          have GG5 := Aside0.mk HG5
          clear gb5 gl5 HG5
          have HMgo5 := Aside0.mk (show (P0_ go5 ∨ w.heap.size ≤ go5) from (HO_0.out.1 _ rfl))
          obtain ⟨hx5_0, hf5_0⟩ := Kd.R_celln 0 HO_0.out (x5_1 : Int) p5 q5
          replace p5 := eq_true p5
          replace q5 := eq_true q5
          have HP7 := Kd.R_putg HO_0.out (x5_1 : Int) ((x1_1) % 256)
          go_wp2_with (first | ((with_reducible refine gate_store (t := 5) (p := 16) rfl ?_); refine store_event (t := 5) (p := 16) (v := ?vo_w8) (w1 := (wr.setCell ⟨go5, (x5_1 : Int).toNat, none⟩ (.int .u8 ((x1_1) % 256)))) ?hg ?ho ?hn ?hr ?_; (case ho => rfl); (case hg => rfl); (case hn => rfl); (case hr => first | (go_simp; done) | (go_simp; rfl)); intro w8 hw; have hg : wr.grownBy w8 (some go5) := (by rw [hw]; exact HP7.2); have hp_ : Kd.R (Kd.int .u8) 5 w8 w0.heap.size (fun k_ => (P0_ k_ ∨ w.heap.size ≤ k_)) (.slice (some ⟨go5, 0, none⟩) x0_1.length co6) y144 := (by rw [hw, Ny144.out]; exact HP7.1); clear HP7; have n0_ := Aside0.mk (hp_); have n1_ := Aside0.mk ((by rw [hw]; exact below_set (HB.out) GB5.out : Below w0.heap.size w0 w8)); have n2_ := Aside0.mk (Kept.of_grown (S := (fun k_ => P0_ k_)) hg (by repeat (first | (with_reducible first | exact HK.out | apply Kept.alloc | apply Kept.drewN | apply Kept.drew) | exact HK.out)) (fun k_ e_ => (HO_0.out.1 k_ e_))); clear HO_0; clear HB; clear HK; have HO_0 := n0_; have HB := n1_; have HK := n2_; clear n0_ n1_ n2_; clear hg hw hp_))
          go_roundg k1
          case measure => have := HK1.out; omega
          case rel => exact ⟨(y144), (wrap64 (x1_1 + 1)), (wrap64 (x5_1 + 1)), (by first | rfl | (simp; done) | (simp [*]; done)), (by first | rfl | (simp; done) | (simp [*]; done)), H', ⟨by have := HK1.out; omega⟩, ⟨by (with_reducible repeat (first | apply Kd.R_alloc | apply Kd.R_drewN | apply Kd.R_drew)); exact HO_0.out⟩, ⟨by repeat (first | (with_reducible first | exact HK.out | apply Kept.alloc | apply Kept.drewN | apply Kept.drew) | exact HK.out)⟩, ⟨by repeat (first | (with_reducible first | exact HB.out | apply below_alloc | apply pw_below_drewN | apply below_drew1) | exact HB.out)⟩⟩
        · rw [if_neg c4] at H
          exact absurd H (by simp)
      · rw [if_neg c3] at H
        have c3b0 : decide (x5_1 < (x0_1.length : Int)) = false := decide_eq_false c3
        clear c3
        simp only [Option.some.injEq, Prod.mk.injEq] at H
        obtain ⟨rfl, rfl⟩ := H
        obtain ⟨Ao9, co9, eo9⟩ := Kd.R_slice HO_0.out
        subst eo9
        go_wp2
        go_ret
        exact ⟨by first | rfl | (simp [errW_none, errW_some] <;> rfl) | (simp [*, errW_none, errW_some] <;> rfl), by (with_reducible repeat (first | apply Kd.R_alloc | apply Kd.R_drewN | apply Kd.R_drew)); exact HO_0.out, by repeat (first | (with_reducible first | exact HB.out | apply below_alloc | apply pw_below_drewN | apply below_drew1) | exact HB.out), by repeat (first | (with_reducible first | exact HK.out | apply Kept.alloc | apply Kept.drewN | apply Kept.drew) | exact HK.out)⟩
end Go.Proofs.Ytdoclpgciadjaaa.P

namespace Go.Proofs.Ytdoclpgciadjaaa.P
open Go.RowKit Go.Proofs.YtdoclpgciadjaaaW.PrintWords Go.Proofs.YtdoclpgciadjaaaW.PrintLast Go.Proofs.YtdoclpgciadjaaaW.PrintMore
set_option linter.unusedVariables false
set_option linter.unusedSimpArgs false
def laws_markFrame.f (k : Nat) (a0_0 : Bool) (a0_1 : Int) (a0_2 : Bool) (a0_3 : Int) (l0_4 : List Int) (a1 : Int) : Option (Int × List Int) := (laws_markByteS.f k l0_4 a1).bind fun bt146 => (some (bt146.1, bt146.2))
theorem laws_markFrame.mono : ∀ a0 a1 a2 a3 a4 a5 k, LeO (laws_markFrame.f k a0 a1 a2 a3 a4 a5) (laws_markFrame.f (k + 1) a0 a1 a2 a3 a4 a5) := by
  intro a0 a1 a2 a3 a4 a5 k
  unfold laws_markFrame.f
  repeat' first
      | (with_reducible exact laws_markByteS.mono _ _ _)
      | (with_reducible exact LeO.refl _)
      | (with_reducible exact LeO.none _)
      | (with_reducible refine LeO.ite ?_ ?_)
      | (with_reducible refine LeO.bind ?_ (fun _ => ?_))
      | exact laws_markByteS.mono _ _ _
      | exact LeO.none _
      | refine LeO.ite ?_ ?_
      | refine LeO.bind ?_ (fun _ => ?_)
set_option maxHeartbeats 8000000 in
set_option maxRecDepth 100000 in
theorem laws_markFrame.calls (k : Nat) (a0_0 : Bool) (a0_1 : Int) (a0_2 : Bool) (a0_3 : Int) (P0_4_ : Nat → Prop) (u9000_ : Value) (l0_4 : List Int) (a1 : Int) (r1 : Int) (r2 : List Int) (w0 w : World) (hB : Below w0.heap.size w0 w) (ho0_4 : Kd.R (Kd.int .u8) 5 w w0.heap.size P0_4_ u9000_ l0_4) (h : laws_markFrame.f k a0_0 a0_1 a0_2 a0_3 l0_4 a1 = some (r1, r2)) :
    Calls Try.prog 37 #[.agg #[.bool a0_0, .int .u32 a0_1, .bool a0_2, .int .i64 a0_3, u9000_], .int .i64 a1] w fun e w' => e = .returned (.int .i64 r1) ∧ Kd.R (Kd.int .u8) 5 w' w0.heap.size (fun k_ => (P0_4_ k_ ∨ w.heap.size ≤ k_)) u9000_ r2 ∧ Below w0.heap.size w0 w' ∧ Kept w w' (fun k_ => P0_4_ k_) := by
  have hu25 := Try.underlying25
  have HO0_4 := Aside0.mk (show Kd.R (Kd.int .u8) 5 w w0.heap.size (fun k_ => (P0_4_ k_ ∨ w.heap.size ≤ k_)) u9000_ l0_4 from Kd.R_mono ho0_4 (fun k_ hk => (.inl hk)))
  have HK := Aside0.mk (Kept.refl w (fun k_ => P0_4_ k_))
  have HW0 := Aside0.mk hB.size
  have HB := Aside0.mk hB
  clear hB
  have H : ((laws_markByteS.f k l0_4 a1).bind fun bt146 => (some (bt146.1, bt146.2))) = some (r1, r2) := h
  clear h
  replace H := Option.bind_eq_some_iff.mp H
  obtain ⟨⟨t146, t147⟩, A30, H⟩ := H
  replace H : (some (t146, t147)) = some (r1, r2) := H
  have A3 := Aside0.mk A30
  clear A30
  simp only [Option.some.injEq, Prod.mk.injEq] at H
  obtain ⟨rfl, rfl⟩ := H
  obtain ⟨Ao4, co4, eo4⟩ := Kd.R_slice HO0_4.out
  subst eo4
  go_enter Try.func37, Try.ntmps37
  go_wp2_with (first | ((with_reducible refine gate_dst (N := 2) rfl ?_); refine box_event ?hg (N := 2) ?hd (cs := #[.bool a0_0, .int .u32 a0_1, .bool a0_2, .int .i64 a0_3, .slice Ao4 l0_4.length co4]) (t := 25) ?hr ?_; (case hd => rfl); (case hg => rfl); (case hr => first | (go_simp; done) | (go_simp; rfl)); intro gb145 hg w5 hbox hb; have n0_ := Aside0.mk (Kd.R_below (by (with_reducible repeat (first | apply Kd.R_alloc | apply Kd.R_drewN | apply Kd.R_drew)); exact HO0_4.out) hb); have n1_ := Aside0.mk (Kept.below (S := (fun k_ => P0_4_ k_)) (by repeat (first | (with_reducible first | exact HK.out | apply Kept.alloc | apply Kept.drewN | apply Kept.drew) | exact HK.out)) hb); have n2_ := Aside0.mk (below_step (by repeat (first | (with_reducible first | exact HB.out | apply below_alloc | apply pw_below_drewN | apply below_drew1) | exact HB.out)) hb); have n3_ := Aside0.mk (hbox); have n4_ := Aside0.mk ((by rw [hg]; exact (by first | exact HK.out.1 | exact (show Kept w _ (fun k_ => P0_4_ k_) from by repeat (first | (with_reducible first | exact HK.out | apply Kept.alloc | apply Kept.drewN | apply Kept.drew) | exact HK.out)).1) : w.heap.size ≤ gb145)); have n5_ := Aside0.mk ((by rw [hg]; exact (below_size (by repeat (first | (with_reducible first | exact HB.out | apply below_alloc | apply pw_below_drewN | apply below_drew1) | exact HB.out))) : w0.heap.size ≤ gb145)); clear HO0_4; clear HK; clear HB; have HO0_4 := n0_; have HK := n1_; have HB := n2_; have BK145 := n3_; have GW145 := n4_; have GE145 := n5_; clear n0_ n1_ n2_ n3_ n4_ n5_; clear hb hbox hg; have hcz6_0 : w5.cell? ⟨gb145, 0, none⟩ = some (.bool a0_0) := (blk_cell BK145.out 0).trans rfl; have hcz6_1 : w5.cell? ⟨gb145, 1, none⟩ = some (.int .u32 a0_1) := (blk_cell BK145.out 1).trans rfl; have hcz6_2 : w5.cell? ⟨gb145, 2, none⟩ = some (.bool a0_2) := (blk_cell BK145.out 2).trans rfl; have hcz6_3 : w5.cell? ⟨gb145, 3, none⟩ = some (.int .i64 a0_3) := (blk_cell BK145.out 3).trans rfl; have hcz6_4 : w5.cell? ⟨gb145, 4, none⟩ = some (.slice Ao4 l0_4.length co4) := (blk_cell BK145.out 4).trans rfl; have hfz6_0 := blk_frozen BK145.out 0; have hfz6_1 := blk_frozen BK145.out 1; have hfz6_2 := blk_frozen BK145.out 2; have hfz6_3 := blk_frozen BK145.out 3; have hfz6_4 := blk_frozen BK145.out 4) | ((with_reducible refine gate_callee (f := 95) rfl ?_); refine goesL_ (some 8) rfl rfl Try.func95 (by kernel_rfl) rfl #[.slice Ao4 l0_4.length co4, .int .i64 a1] rfl (by (try simp only [List.map_toArray, List.map_cons, List.map_nil]); first | done | rfl | (simp only [List.length_drop, List.length_take]; rfl)) ?_; (with_reducible refine (laws_markByteS.calls k (fun k_ => some k_ = (.slice Ao4 l0_4.length co4 : Value).ownBlock) (.slice Ao4 l0_4.length co4) l0_4 a1 t146 t147 w0 _ ?side1 ?side2 A3.out).mono ?_); (case side1 => repeat (first | (with_reducible first | exact HB.out | apply below_alloc | apply pw_below_drewN | apply below_drew1 | refine below_set ?_ GE145.out) | exact HB.out)); (case side2 => exact Kd.R_tight rfl HO0_4.out); rintro e w7 ⟨rfl, hy0, hb, hkp⟩; refine ⟨_, rfl, ?_⟩; have n0_ := Aside0.mk (Kd.R_reok rfl hy0 (fun k_ e_ => HO0_4.out.1 k_ e_)); have n1_ := Aside0.mk (blk_kept (by (with_reducible repeat (first | refine blk_drewN ?_ _ | refine blk_drew ?_ | refine blk_alloc ?_ _)); exact BK145.out) hkp (fun hs_ => (fun e_ => (Kd.R_ne HO0_4.out BK145.out (by decide)) e_) hs_)); have n2_ := Aside0.mk (Kept.then_ (S := (fun k_ => P0_4_ k_)) (by repeat (first | (with_reducible first | exact HK.out | apply Kept.alloc | apply Kept.drewN | apply Kept.drew | refine Kept.setCell ?_ (.inr GW145.out) _) | exact HK.out)) hkp (fun k_ hs_ => (fun e_ => (HO0_4.out.1 k_ e_.symm)) hs_)); have n3_ := Aside0.mk (hb); clear HO0_4; clear BK145; clear HK; clear HB; have HO0_4 := n0_; have BK145 := n1_; have HK := n2_; have HB := n3_; clear n0_ n1_ n2_ n3_; (try clear hb); (try clear hkp); (try clear hy0)))
  go_ret
  exact ⟨by first | rfl | (simp [errW_none, errW_some] <;> rfl) | (simp [*, errW_none, errW_some] <;> rfl), by (with_reducible repeat (first | apply Kd.R_alloc | apply Kd.R_drewN | apply Kd.R_drew)); exact HO0_4.out, by repeat (first | (with_reducible first | exact HB.out | apply below_alloc | apply pw_below_drewN | apply below_drew1 | refine below_set ?_ GE145.out) | exact HB.out), by repeat (first | (with_reducible first | exact HK.out | apply Kept.alloc | apply Kept.drewN | apply Kept.drew | refine Kept.setCell ?_ (.inr GW145.out) _) | exact HK.out)⟩
end Go.Proofs.Ytdoclpgciadjaaa.P

namespace Go.Proofs.Ytdoclpgciadjaaa.P
open Go.RowKit Go.Proofs.YtdoclpgciadjaaaW.PrintWords Go.Proofs.YtdoclpgciadjaaaW.PrintLast Go.Proofs.YtdoclpgciadjaaaW.PrintMore
set_option linter.unusedVariables false
set_option linter.unusedSimpArgs false
def spec_l1walk.tail (k : Nat) (all : List Int) (p : List Int) (i : Nat) (next : Bool → Option (Int × List Int × Bool)) : Option (Int × List Int × Bool) :=
  (spec_l1due.f all ((i + 1 : Nat) : Int)).bind fun d => if d = true then (spec_l1field.f k p).bind fun x => (if x ≤ 10 then next true else next (x == 11)) else next false
def spec_l1walk.l0 : Nat → List Int → Int → List Int → Bool → Nat → Option (Int × List Int × Bool)
  | 0, _, _, _, _, _ => none
  | k + 1, all, code, p, due, i =>
    if i < all.length then
      (if code ≠ 0 ∧ code ≠ 1 then some (7, p, false)
      else if due = true then (if 1 ≤ i then (if rd all (i : Int) = rd all ((i - 1 : Nat) : Int) then spec_l1walk.tail k all p i (fun d => spec_l1walk.l0 k all 3 p d (i + 1)) else spec_l1walk.tail k all p i (fun d => spec_l1walk.l0 k all 0 p d (i + 1))) else none)
      else (spec_l1look.f k p (rd all (i : Int))).bind fun c => spec_l1walk.tail k all (p ++ [rd all (i : Int)]) i (fun d => spec_l1walk.l0 k all c (p ++ [rd all (i : Int)]) d (i + 1)))
    else some (code, p, due)
def spec_l1walk.f (k : Nat) (a0 : ByteArray) : Option (Int × List Int × Bool) := if a0.size ≤ 4000 ∧ isBits a0 = true then spec_l1walk.l0 k (bytesOf a0) 0 [] false 0 else some (8, [], false)
theorem spec_l1walk.tail_mono (k : Nat) (all p : List Int) (i : Nat) (f g : Bool → Option (Int × List Int × Bool)) (h : ∀ d, LeO (f d) (g d)) : LeO (spec_l1walk.tail k all p i f) (spec_l1walk.tail (k + 1) all p i g) := by
  unfold spec_l1walk.tail
  refine LeO.bind (LeO.refl _) (fun d => LeO.ite (LeO.bind (spec_l1field.mono _ _) (fun x => LeO.ite (h _) (h _))) (h _))
theorem spec_l1walk.mono_l : ∀ k all code p due i, LeO (spec_l1walk.l0 k all code p due i) (spec_l1walk.l0 (k + 1) all code p due i)
  | 0 => fun _ _ _ _ _ r h => by simp [spec_l1walk.l0] at h
  | k + 1 => by
    have ih := spec_l1walk.mono_l k
    intro all code p due i
    rw [spec_l1walk.l0, spec_l1walk.l0]
    refine LeO.ite (LeO.ite (LeO.refl _) (LeO.ite (LeO.ite (LeO.ite (spec_l1walk.tail_mono _ _ _ _ _ _ (fun d => ih _ _ _ _ _)) (spec_l1walk.tail_mono _ _ _ _ _ _ (fun d => ih _ _ _ _ _))) (LeO.none _)) (LeO.bind (spec_l1look.mono _ _ _) (fun c => spec_l1walk.tail_mono _ _ _ _ _ _ (fun d => ih _ _ _ _ _))))) (LeO.refl _)
theorem spec_l1walk.mono : ∀ a0 k, LeO (spec_l1walk.f k a0) (spec_l1walk.f (k + 1) a0) := by
  intro a0 k
  unfold spec_l1walk.f
  exact LeO.ite (spec_l1walk.mono_l _ _ _ _ _ _) (LeO.refl _)
theorem l1walk_okBits (a0 : ByteArray) (w : World) (b : Bool) (hb : (decide (a0.size ≤ 4000) && isBits a0) = b) :
    Calls Try.prog 128 #[.string a0, .int .i64 4000] w fun e w' => e = .returned (.bool b) ∧ Below w.heap.size w w' := by
  obtain ⟨k, hk⟩ := (okBits_ev a0 4000 (by omega)).rounds
  rw [hb] at hk
  exact (spec_l1okBits.calls k a0 4000 b w hk).mono fun e w' ⟨he, hd⟩ => ⟨he, hd.below⟩
theorem l1walk_due {s : ByteArray} {g c : Nat} {i : Int} {w : World} (hC : Kd.C (Kd.int .u8) w (some ⟨g, 0, none⟩) s.size (bytesOf s)) (hc : s.size ≤ c) (b : Bool) (h : spec_l1due.f (bytesOf s) i = some b) :
    Calls Try.prog 139 #[.slice (some ⟨g, 0, none⟩) s.size c, .int .i64 i] w fun e w' => e = .returned (.bool b) ∧ Drawn0 w w' := by
  have := spec_l1due.calls (some ⟨g, 0, none⟩) c (bytesOf s) i b w (by rw [bytesOf_length]; exact hC) (by rw [bytesOf_length]; exact hc) h
  rw [bytesOf_length] at this
  exact this
theorem R_readsC {w : World} {e base n c : Nat} {ok : Nat → Prop} {A : Option Addr} {p : List Int} (h : Kd.R (Kd.int .u8) e w base ok (.slice A n c) p) : Kd.C (Kd.int .u8) w A n p ∧ n ≤ c := by
  have h2 := Kd.R_reads' h
  have hn := h2.1
  subst hn
  exact ⟨h2.2.2, h2.2.1⟩
theorem l1walk_field {k : Nat} {A : Option Addr} {c n : Nat} {p : List Int} {x : Int} {w : World} (hC : Kd.C (Kd.int .u8) w A n p) (hc : n ≤ c) (h : spec_l1field.f k p = some x) :
    Calls Try.prog 87 #[.slice A n c] w fun e w' => e = .returned (.int .i64 x) ∧ Drawn0 w w' := by
  have hn := hC.1
  subst hn
  exact spec_l1field.calls k A c p x w hC hc h
inductive TailIs (k : Nat) (all p : List Int) (i : Nat) (next : Bool → Option (Int × List Int × Bool)) (R : Int × List Int × Bool) : Prop
  | off (h : spec_l1due.f all ((i + 1 : Nat) : Int) = some false) (hn : next false = some R)
  | low (h : spec_l1due.f all ((i + 1 : Nat) : Int) = some true) (x : Int) (hx : spec_l1field.f k p = some x) (hl : x ≤ 10) (hn : next true = some R)
  | high (h : spec_l1due.f all ((i + 1 : Nat) : Int) = some true) (x : Int) (hx : spec_l1field.f k p = some x) (hl : ¬ x ≤ 10) (hn : next (x == 11) = some R)
theorem tail_is {k : Nat} {all p : List Int} {i : Nat} {next : Bool → Option (Int × List Int × Bool)} {R : Int × List Int × Bool} (h : spec_l1walk.tail k all p i next = some R) : TailIs k all p i next R := by
  unfold spec_l1walk.tail at h
  obtain ⟨d, hd, h⟩ := Option.bind_eq_some_iff.1 h
  cases d with
  | false => exact .off hd h
  | true =>
    rw [if_pos rfl] at h
    obtain ⟨x, hx, h⟩ := Option.bind_eq_some_iff.1 h
    by_cases c : x ≤ 10
    · rw [if_pos c] at h; exact .low hd x hx c h
    · rw [if_neg c] at h; exact .high hd x hx c h
set_option maxHeartbeats 8000000 in
set_option maxRecDepth 100000 in
theorem spec_l1walk.yes (k : Nat) (a0 : ByteArray) (r1 : Int) (r2 : List Int) (r3 : Bool) (w : World) (hsz : a0.size ≤ 4000) (hB0 : isBits a0 = true) (hR : spec_l1walk.l0 k (bytesOf a0) 0 [] false 0 = some (r1, r2, r3)) :
    Calls Try.prog 86 #[.string a0] w fun e w' => ∃ v2_ : Value, e = .returned (.tuple #[.int .i64 r1, v2_, .bool r3]) ∧ Kd.R (Kd.int .u8) 5 w' w.heap.size (fun _ => True) v2_ r2 ∧ Below w.heap.size w w' := by
  have hbt : Hid ((decide (a0.size ≤ 4000) && isBits a0) = true) := by
    refine Lib.hid ?_
    rw [hB0, decide_eq_true (by omega)]; rfl
  have HR := Lib.hid hR
  clear hB0 hR
  go_enter Try.func86, Try.ntmps86
  go_wp2_with (go_at_call 128; refine (l1walk_okBits a0 _ true hbt.out).mono ?_; rintro e w1 ⟨rfl, hb1⟩; have hcv0 := Lib.run_convert_string_bytes (P := Try.prog) w1 9 22 5 a0 Try.underlying9 Try.underlying22 Try.underlying5; have HBL : Hid (Below w.heap.size w w1) := Lib.hid (Below.trans ((Below.refl _ _).alloc (Nat.le_refl _) _) (hb1.mono (by simp))); have HB1 := Lib.hid hb1; clear hb1)
  have HCC : Hid (a0.size ≤ grownCap w1 a0.size 0 5) := Lib.hid (grownCap_ge _ _ _ _)
  generalize grownCap w1 a0.size 0 5 = cc at HCC ⊢
  have HLT : Hid (w.heap.size < w1.heap.size) := Lib.hid (by have := HB1.out.size; simp at this; omega)
  have HR0 : Hid (Kd.R (Kd.int .u8) 5 (Lib.bytesWorld w1 5 a0) w.heap.size (fun k => k ≠ w1.heap.size) (.slice (some ⟨w.heap.size, 0, none⟩) 0 0) []) := Lib.hid (Kd.R_below (Kd.R_below (R_empty (Kd.int .u8) w 5 w.heap.size (Nat.le_refl _) (fun k => k ≠ w1.heap.size) (by have := HLT.out; omega)) HB1.out) (below_bytes (Below.refl _ _) (Nat.le_refl _) 5 a0))
  go_loopw [5, 7, 8, 9] (fun v5 v7 v8 v9 wr => ∃ (kq i : Nat) (p : List Int) (code : Int) (due : Bool), v7 = .int .i64 code ∧ v8 = .bool due ∧ v9 = .int .i64 i ∧ i ≤ a0.size ∧ Aside0 (spec_l1walk.l0 kq (bytesOf a0) code p due i = some (r1, r2, r3)) ∧ Aside0 (p.length ≤ i) ∧ Aside0 (Kd.R (Kd.int .u8) 5 wr w.heap.size (fun k => k ≠ w1.heap.size) v5 p) ∧ Aside0 (Below w.heap.size w wr) ∧ Aside0 (Kd.C (Kd.int .u8) wr (some ⟨w1.heap.size, 0, none⟩) a0.size (bytesOf a0)) ∧ Aside0 (w1.heap.size < wr.heap.size)) (fun _ _ _ v9 _ => a0.size - (intOf v9).toNat)
  case atStart => exact ⟨k, 0, [], 0, false, rfl, rfl, rfl, Nat.zero_le _, ⟨HR.out⟩, ⟨Nat.le_refl _⟩, ⟨HR0.out⟩, ⟨below_bytes HBL.out HBL.out.size 5 a0⟩, ⟨bytes_C w1 5 a0 (by omega)⟩, ⟨by rw [Lib.bytesWorld_size]; omega⟩⟩
  case round =>
    obtain ⟨kq, i, p, code, due, rfl, rfl, rfl, hile, HA, HL, HO, HW, HC, HG⟩ := hrel
    obtain ⟨A5, c5, e5⟩ := Kd.R_slice HO.out
    subst e5
    cases kq with
    | zero => exact absurd HA.out (by simp [spec_l1walk.l0])
    | succ kj =>
      have H := HA.out
      clear HA
      rw [spec_l1walk.l0] at H
      by_cases hp : i < a0.size
      · rw [if_pos (by rw [bytesOf_length]; exact hp)] at H
        have hcell := C_cell HC.out i hp
        by_cases hcd : code ≠ 0 ∧ code ≠ 1
        · rw [if_pos hcd] at H
          have hb0 : (code != 0) = true := by simp [hcd.1]
          have hb1 : (code != 1) = true := by simp [hcd.2]
          clear hcd
          simp only [Option.some.injEq, Prod.mk.injEq] at H
          obtain ⟨rfl, rfl, rfl⟩ := H
          go_wp2_with (fail)
          go_ret3
          exact ⟨_, rfl, Kd.R_mono HO.out (fun _ _ => trivial), HW.out⟩
        rw [if_neg hcd] at H
        have hcd2 : code = 0 ∨ code = 1 := by omega
        clear hcd
        have HH := Lib.hid H
        clear H
        rcases hcd2 with rfl | rfl
        · have hdd : Hid (due = due) := Lib.hid rfl
          cases due with
          | true =>
            have H := HH.out
            clear HH
            rw [if_pos rfl] at H
            by_cases h1i : 1 ≤ i
            · rw [if_pos h1i] at H
              have hcell2 := C_cell HC.out (i - 1) (by omega)
              have HW1 : Hid (IntKind.i64.wrap ((i : Int) - 1) = ((i - 1 : Nat) : Int)) := Lib.hid (by rw [IntKind.wrap_i64]; omega)
              have HI1 : Hid (i - 1 < a0.size) := Lib.hid (by omega)
              by_cases hx0 : rd (bytesOf a0) (i : Int) = rd (bytesOf a0) ((i - 1 : Nat) : Int)
              · rw [if_pos hx0] at H
                have hxb : (rd (bytesOf a0) (i : Int) == rd (bytesOf a0) ((i - 1 : Nat) : Int)) = true := beq_iff_eq.mpr hx0
                have HT := Lib.hid (tail_is H)
                clear H hx0
                obtain ⟨yy, hyy⟩ : ∃ yy, rd (bytesOf a0) ((i - 1 : Nat) : Int) = yy := ⟨_, rfl⟩
                rw [hyy] at hcell2 hxb
                clear hyy
                go_wp2_with (fail)
                have hi1 := HI1.out
                have hw1 := HW1.out
                go_quiet (fail)
                clear hw1 hi1 hcell2
                generalize hWq : wr.drewN nq = wq
                have HO1 : Hid (Kd.R (Kd.int .u8) 5 wq w.heap.size (fun k => k ≠ w1.heap.size) (.slice A5 p.length c5) p) := Lib.hid (hWq ▸ Kd.R_below HO.out (pw_below_drewN (Below.refl _ _) nq))
                have HW2 : Hid (Below w.heap.size w wq) := Lib.hid (hWq ▸ pw_below_drewN HW.out nq)
                have HC2 : Hid (Kd.C (Kd.int .u8) wq (some ⟨w1.heap.size, 0, none⟩) a0.size (bytesOf a0)) := Lib.hid (hWq ▸ Kd.C_below HC.out (pw_below_drewN (Below.refl _ _) nq))
                have HG2 : Hid (w1.heap.size < wq.heap.size) := Lib.hid (hWq ▸ HG.out)
                clear hWq
                cases HT.out with
                | off hd hn =>
                  have HD := Lib.hid (show spec_l1due.f (bytesOf a0) ((i : Int) + 1) = some _ from hd)
                  have HN := Lib.hid hn
                  clear hd hn
                  go_wp2_with (go_at_call 139; refine (l1walk_due (i := (i : Int) + 1) (Kd.C_below HC2.out (by repeat (first | exact Below.refl _ _ | apply pw_below_drewN | apply below_drew))) HCC.out _ HD.out).mono ?_; rintro e w' ⟨rfl, ⟨nd, rfl⟩⟩)
                  go_roundw
                  case rel => exact ⟨kj, i + 1, p, 3, false, rfl, rfl, by go_num, hp, ⟨HN.out⟩, ⟨Nat.le_succ_of_le HL.out⟩, ⟨Kd.R_below HO1.out (by repeat (first | exact Below.refl _ _ | apply pw_below_drewN | apply below_drew))⟩, ⟨by repeat (first | exact HW2.out | apply pw_below_drewN | apply below_drew)⟩, ⟨Kd.C_below HC2.out (by repeat (first | exact Below.refl _ _ | apply pw_below_drewN | apply below_drew))⟩, ⟨HG2.out⟩⟩
                  case measure => simp [intOf]; omega
                | low hd x hx hl hn =>
                  have HD := Lib.hid (show spec_l1due.f (bytesOf a0) ((i : Int) + 1) = some _ from hd)
                  have HN := Lib.hid hn
                  have HX := Lib.hid hx
                  have hlb : decide (x ≤ 10) = true := decide_eq_true hl
                  clear hd hn hx hl
                  go_wp2_with (first | (go_at_call 139; refine (l1walk_due (i := (i : Int) + 1) (Kd.C_below HC2.out (by repeat (first | exact Below.refl _ _ | apply pw_below_drewN | apply below_drew))) HCC.out _ HD.out).mono ?_; rintro e w' ⟨rfl, ⟨nd, rfl⟩⟩) | (go_at_call 87; refine (l1walk_field (k := kj) (p := p) (Kd.C_below (Kd.R_reads' HO1.out).2.2 (by repeat (first | exact Below.refl _ _ | apply pw_below_drewN | apply below_drew))) (Kd.R_reads' HO1.out).2.1 HX.out).mono ?_; rintro e w' ⟨rfl, ⟨nf, rfl⟩⟩))
                  go_roundw
                  case rel => exact ⟨kj, i + 1, p, 3, true, rfl, rfl, by go_num, hp, ⟨HN.out⟩, ⟨Nat.le_succ_of_le HL.out⟩, ⟨Kd.R_below HO1.out (by repeat (first | exact Below.refl _ _ | apply pw_below_drewN | apply below_drew))⟩, ⟨by repeat (first | exact HW2.out | apply pw_below_drewN | apply below_drew)⟩, ⟨Kd.C_below HC2.out (by repeat (first | exact Below.refl _ _ | apply pw_below_drewN | apply below_drew))⟩, ⟨HG2.out⟩⟩
                  case measure => simp [intOf]; omega
                | high hd x hx hl hn =>
                  have HD := Lib.hid (show spec_l1due.f (bytesOf a0) ((i : Int) + 1) = some _ from hd)
                  have HN := Lib.hid hn
                  have HX := Lib.hid hx
                  have hlb : decide (x ≤ 10) = false := decide_eq_false hl
                  clear hd hn hx hl
                  go_wp2_with (first | (go_at_call 139; refine (l1walk_due (i := (i : Int) + 1) (Kd.C_below HC2.out (by repeat (first | exact Below.refl _ _ | apply pw_below_drewN | apply below_drew))) HCC.out _ HD.out).mono ?_; rintro e w' ⟨rfl, ⟨nd, rfl⟩⟩) | (go_at_call 87; refine (l1walk_field (k := kj) (p := p) (Kd.C_below (Kd.R_reads' HO1.out).2.2 (by repeat (first | exact Below.refl _ _ | apply pw_below_drewN | apply below_drew))) (Kd.R_reads' HO1.out).2.1 HX.out).mono ?_; rintro e w' ⟨rfl, ⟨nf, rfl⟩⟩))
                  go_roundw
                  case rel => exact ⟨kj, i + 1, p, 3, (x == 11), rfl, rfl, by go_num, hp, ⟨HN.out⟩, ⟨Nat.le_succ_of_le HL.out⟩, ⟨Kd.R_below HO1.out (by repeat (first | exact Below.refl _ _ | apply pw_below_drewN | apply below_drew))⟩, ⟨by repeat (first | exact HW2.out | apply pw_below_drewN | apply below_drew)⟩, ⟨Kd.C_below HC2.out (by repeat (first | exact Below.refl _ _ | apply pw_below_drewN | apply below_drew))⟩, ⟨HG2.out⟩⟩
                  case measure => simp [intOf]; omega
              · rw [if_neg hx0] at H
                have hxb : (rd (bytesOf a0) (i : Int) == rd (bytesOf a0) ((i - 1 : Nat) : Int)) = false := beq_eq_false_iff_ne.mpr hx0
                have HT := Lib.hid (tail_is H)
                clear H hx0
                obtain ⟨yy, hyy⟩ : ∃ yy, rd (bytesOf a0) ((i - 1 : Nat) : Int) = yy := ⟨_, rfl⟩
                rw [hyy] at hcell2 hxb
                clear hyy
                go_wp2_with (fail)
                have hi1 := HI1.out
                have hw1 := HW1.out
                go_quiet (fail)
                clear hw1 hi1 hcell2
                generalize hWq : wr.drewN nq = wq
                have HO1 : Hid (Kd.R (Kd.int .u8) 5 wq w.heap.size (fun k => k ≠ w1.heap.size) (.slice A5 p.length c5) p) := Lib.hid (hWq ▸ Kd.R_below HO.out (pw_below_drewN (Below.refl _ _) nq))
                have HW2 : Hid (Below w.heap.size w wq) := Lib.hid (hWq ▸ pw_below_drewN HW.out nq)
                have HC2 : Hid (Kd.C (Kd.int .u8) wq (some ⟨w1.heap.size, 0, none⟩) a0.size (bytesOf a0)) := Lib.hid (hWq ▸ Kd.C_below HC.out (pw_below_drewN (Below.refl _ _) nq))
                have HG2 : Hid (w1.heap.size < wq.heap.size) := Lib.hid (hWq ▸ HG.out)
                clear hWq
                cases HT.out with
                | off hd hn =>
                  have HD := Lib.hid (show spec_l1due.f (bytesOf a0) ((i : Int) + 1) = some _ from hd)
                  have HN := Lib.hid hn
                  clear hd hn
                  go_wp2_with (go_at_call 139; refine (l1walk_due (i := (i : Int) + 1) (Kd.C_below HC2.out (by repeat (first | exact Below.refl _ _ | apply pw_below_drewN | apply below_drew))) HCC.out _ HD.out).mono ?_; rintro e w' ⟨rfl, ⟨nd, rfl⟩⟩)
                  go_roundw
                  case rel => exact ⟨kj, i + 1, p, 0, false, rfl, rfl, by go_num, hp, ⟨HN.out⟩, ⟨Nat.le_succ_of_le HL.out⟩, ⟨Kd.R_below HO1.out (by repeat (first | exact Below.refl _ _ | apply pw_below_drewN | apply below_drew))⟩, ⟨by repeat (first | exact HW2.out | apply pw_below_drewN | apply below_drew)⟩, ⟨Kd.C_below HC2.out (by repeat (first | exact Below.refl _ _ | apply pw_below_drewN | apply below_drew))⟩, ⟨HG2.out⟩⟩
                  case measure => simp [intOf]; omega
                | low hd x hx hl hn =>
                  have HD := Lib.hid (show spec_l1due.f (bytesOf a0) ((i : Int) + 1) = some _ from hd)
                  have HN := Lib.hid hn
                  have HX := Lib.hid hx
                  have hlb : decide (x ≤ 10) = true := decide_eq_true hl
                  clear hd hn hx hl
                  go_wp2_with (first | (go_at_call 139; refine (l1walk_due (i := (i : Int) + 1) (Kd.C_below HC2.out (by repeat (first | exact Below.refl _ _ | apply pw_below_drewN | apply below_drew))) HCC.out _ HD.out).mono ?_; rintro e w' ⟨rfl, ⟨nd, rfl⟩⟩) | (go_at_call 87; refine (l1walk_field (k := kj) (p := p) (Kd.C_below (Kd.R_reads' HO1.out).2.2 (by repeat (first | exact Below.refl _ _ | apply pw_below_drewN | apply below_drew))) (Kd.R_reads' HO1.out).2.1 HX.out).mono ?_; rintro e w' ⟨rfl, ⟨nf, rfl⟩⟩))
                  go_roundw
                  case rel => exact ⟨kj, i + 1, p, 0, true, rfl, rfl, by go_num, hp, ⟨HN.out⟩, ⟨Nat.le_succ_of_le HL.out⟩, ⟨Kd.R_below HO1.out (by repeat (first | exact Below.refl _ _ | apply pw_below_drewN | apply below_drew))⟩, ⟨by repeat (first | exact HW2.out | apply pw_below_drewN | apply below_drew)⟩, ⟨Kd.C_below HC2.out (by repeat (first | exact Below.refl _ _ | apply pw_below_drewN | apply below_drew))⟩, ⟨HG2.out⟩⟩
                  case measure => simp [intOf]; omega
                | high hd x hx hl hn =>
                  have HD := Lib.hid (show spec_l1due.f (bytesOf a0) ((i : Int) + 1) = some _ from hd)
                  have HN := Lib.hid hn
                  have HX := Lib.hid hx
                  have hlb : decide (x ≤ 10) = false := decide_eq_false hl
                  clear hd hn hx hl
                  go_wp2_with (first | (go_at_call 139; refine (l1walk_due (i := (i : Int) + 1) (Kd.C_below HC2.out (by repeat (first | exact Below.refl _ _ | apply pw_below_drewN | apply below_drew))) HCC.out _ HD.out).mono ?_; rintro e w' ⟨rfl, ⟨nd, rfl⟩⟩) | (go_at_call 87; refine (l1walk_field (k := kj) (p := p) (Kd.C_below (Kd.R_reads' HO1.out).2.2 (by repeat (first | exact Below.refl _ _ | apply pw_below_drewN | apply below_drew))) (Kd.R_reads' HO1.out).2.1 HX.out).mono ?_; rintro e w' ⟨rfl, ⟨nf, rfl⟩⟩))
                  go_roundw
                  case rel => exact ⟨kj, i + 1, p, 0, (x == 11), rfl, rfl, by go_num, hp, ⟨HN.out⟩, ⟨Nat.le_succ_of_le HL.out⟩, ⟨Kd.R_below HO1.out (by repeat (first | exact Below.refl _ _ | apply pw_below_drewN | apply below_drew))⟩, ⟨by repeat (first | exact HW2.out | apply pw_below_drewN | apply below_drew)⟩, ⟨Kd.C_below HC2.out (by repeat (first | exact Below.refl _ _ | apply pw_below_drewN | apply below_drew))⟩, ⟨HG2.out⟩⟩
                  case measure => simp [intOf]; omega
            · rw [if_neg h1i] at H
              exact absurd H (by simp)
          | false =>
            have H := HH.out
            clear HH
            rw [if_neg (by decide)] at H
            obtain ⟨cl, hcl, H⟩ := Option.bind_eq_some_iff.1 H
            have HCL := Lib.hid hcl
            have HT := Lib.hid (tail_is H)
            clear H hcl
            cases HT.out with
            | off hd hn =>
              have HD := Lib.hid (show spec_l1due.f (bytesOf a0) ((i : Int) + 1) = some _ from hd)
              have HN := Lib.hid hn
              clear hd hn
              go_wp2_with (first | (go_at_call 138; refine (spec_l1look.calls kj A5 c5 p _ cl _ (Kd.R_reads' HO.out).2.2 (Kd.R_reads' HO.out).2.1 HCL.out).mono ?_; rintro e wl ⟨rfl, hbl⟩; have HO1 := Lib.hid (Kd.R_below HO.out hbl); have HW2 := Lib.hid (HW.out.trans (hbl.mono HW.out.size)); have HC2 := Lib.hid (Kd.C_below HC.out hbl); have HG2 : Hid (w1.heap.size < wl.heap.size) := Lib.hid (Nat.lt_of_lt_of_le HG.out hbl.size); have hcell := C_cell HC2.out i hp; clear hbl) | (at_builtin; refine Kd.R_append (Kd.int .u8) (w0 := w) w.heap.size rfl (.tmp 47) (.tmp 52) 22 5 (.int .u8 0) 1 rfl Try.underlying22 infoU8 rfl (by decide) (by omega) _ p (rd (bytesOf a0) (i : Int)) [.int .u8 (rd (bytesOf a0) (i : Int))] (fun k => k ≠ w1.heap.size) (fun _ => False) rfl rfl ?aP (fun _ hk => hk.elim) ?aF ?aO ?aB ?aS ?aL ?_; (case aP => exact rfl); (case aF => exact fun k hk => by have := HG2.out; omega); (case aO => exact HO1.out); (case aB => exact HW2.out); (case aS => exact HW2.out.size); (case aL => have := HL.out; omega); intro v1 wA ho1 hb1 hg1 hat1; obtain ⟨g1, cA, ev1, -, -, -, -⟩ := Kd.R_form ho1 (by simp); rw [show (p ++ [rd (bytesOf a0) (i : Int)]).length = p.length + 1 by simp] at ev1; subst ev1; have HO3 := Lib.hid ho1; have HCP := Lib.hid (R_readsC ho1).1; have HLC := Lib.hid (R_readsC ho1).2; have HW3 := Lib.hid hb1; have HC3 := Lib.hid (C_kept HC2.out hg1 HG2.out (fun k hk => (HO1.out.1 k hk))); have HG3 : Hid (w1.heap.size < wA.heap.size) := Lib.hid (Nat.lt_of_lt_of_le HG2.out hg1.size); clear ho1 hb1 hg1 hat1) | (go_at_call 139; refine (l1walk_due (i := (i : Int) + 1) HC3.out HCC.out _ HD.out).mono ?_; rintro e w' ⟨rfl, ⟨nd, rfl⟩⟩))
              go_roundw
              case rel => exact ⟨kj, i + 1, _, cl, false, rfl, rfl, by go_num, hp, ⟨HN.out⟩, ⟨by have := HL.out; simp; omega⟩, ⟨Kd.R_below HO3.out (by repeat (first | exact Below.refl _ _ | apply pw_below_drewN | apply below_drew))⟩, ⟨by repeat (first | exact HW3.out | apply pw_below_drewN | apply below_drew)⟩, ⟨Kd.C_below HC3.out (by repeat (first | exact Below.refl _ _ | apply pw_below_drewN | apply below_drew))⟩, ⟨HG3.out⟩⟩
              case measure => simp [intOf]; omega
            | low hd x hx hl hn =>
              have HD := Lib.hid (show spec_l1due.f (bytesOf a0) ((i : Int) + 1) = some _ from hd)
              have HN := Lib.hid hn
              have HX := Lib.hid hx
              have hlb : decide (x ≤ 10) = true := decide_eq_true hl
              clear hd hn hx hl
              go_wp2_with (first | (go_at_call 138; refine (spec_l1look.calls kj A5 c5 p _ cl _ (Kd.R_reads' HO.out).2.2 (Kd.R_reads' HO.out).2.1 HCL.out).mono ?_; rintro e wl ⟨rfl, hbl⟩; have HO1 := Lib.hid (Kd.R_below HO.out hbl); have HW2 := Lib.hid (HW.out.trans (hbl.mono HW.out.size)); have HC2 := Lib.hid (Kd.C_below HC.out hbl); have HG2 : Hid (w1.heap.size < wl.heap.size) := Lib.hid (Nat.lt_of_lt_of_le HG.out hbl.size); have hcell := C_cell HC2.out i hp; clear hbl) | (at_builtin; refine Kd.R_append (Kd.int .u8) (w0 := w) w.heap.size rfl (.tmp 47) (.tmp 52) 22 5 (.int .u8 0) 1 rfl Try.underlying22 infoU8 rfl (by decide) (by omega) _ p (rd (bytesOf a0) (i : Int)) [.int .u8 (rd (bytesOf a0) (i : Int))] (fun k => k ≠ w1.heap.size) (fun _ => False) rfl rfl ?aP (fun _ hk => hk.elim) ?aF ?aO ?aB ?aS ?aL ?_; (case aP => exact rfl); (case aF => exact fun k hk => by have := HG2.out; omega); (case aO => exact HO1.out); (case aB => exact HW2.out); (case aS => exact HW2.out.size); (case aL => have := HL.out; omega); intro v1 wA ho1 hb1 hg1 hat1; obtain ⟨g1, cA, ev1, -, -, -, -⟩ := Kd.R_form ho1 (by simp); rw [show (p ++ [rd (bytesOf a0) (i : Int)]).length = p.length + 1 by simp] at ev1; subst ev1; have HO3 := Lib.hid ho1; have HCP := Lib.hid (R_readsC ho1).1; have HLC := Lib.hid (R_readsC ho1).2; have HW3 := Lib.hid hb1; have HC3 := Lib.hid (C_kept HC2.out hg1 HG2.out (fun k hk => (HO1.out.1 k hk))); have HG3 : Hid (w1.heap.size < wA.heap.size) := Lib.hid (Nat.lt_of_lt_of_le HG2.out hg1.size); clear ho1 hb1 hg1 hat1) | (go_at_call 139; refine (l1walk_due (i := (i : Int) + 1) HC3.out HCC.out _ HD.out).mono ?_; rintro e w' ⟨rfl, ⟨nd, rfl⟩⟩) | (go_at_call 87; refine (l1walk_field (k := kj) (p := p ++ [rd (bytesOf a0) (i : Int)]) (Kd.C_below HCP.out (by repeat (first | exact Below.refl _ _ | apply pw_below_drewN | apply below_drew))) HLC.out HX.out).mono ?_; rintro e w' ⟨rfl, ⟨nf, rfl⟩⟩))
              go_roundw
              case rel => exact ⟨kj, i + 1, _, cl, true, rfl, rfl, by go_num, hp, ⟨HN.out⟩, ⟨by have := HL.out; simp; omega⟩, ⟨Kd.R_below HO3.out (by repeat (first | exact Below.refl _ _ | apply pw_below_drewN | apply below_drew))⟩, ⟨by repeat (first | exact HW3.out | apply pw_below_drewN | apply below_drew)⟩, ⟨Kd.C_below HC3.out (by repeat (first | exact Below.refl _ _ | apply pw_below_drewN | apply below_drew))⟩, ⟨HG3.out⟩⟩
              case measure => simp [intOf]; omega
            | high hd x hx hl hn =>
              have HD := Lib.hid (show spec_l1due.f (bytesOf a0) ((i : Int) + 1) = some _ from hd)
              have HN := Lib.hid hn
              have HX := Lib.hid hx
              have hlb : decide (x ≤ 10) = false := decide_eq_false hl
              clear hd hn hx hl
              go_wp2_with (first | (go_at_call 138; refine (spec_l1look.calls kj A5 c5 p _ cl _ (Kd.R_reads' HO.out).2.2 (Kd.R_reads' HO.out).2.1 HCL.out).mono ?_; rintro e wl ⟨rfl, hbl⟩; have HO1 := Lib.hid (Kd.R_below HO.out hbl); have HW2 := Lib.hid (HW.out.trans (hbl.mono HW.out.size)); have HC2 := Lib.hid (Kd.C_below HC.out hbl); have HG2 : Hid (w1.heap.size < wl.heap.size) := Lib.hid (Nat.lt_of_lt_of_le HG.out hbl.size); have hcell := C_cell HC2.out i hp; clear hbl) | (at_builtin; refine Kd.R_append (Kd.int .u8) (w0 := w) w.heap.size rfl (.tmp 47) (.tmp 52) 22 5 (.int .u8 0) 1 rfl Try.underlying22 infoU8 rfl (by decide) (by omega) _ p (rd (bytesOf a0) (i : Int)) [.int .u8 (rd (bytesOf a0) (i : Int))] (fun k => k ≠ w1.heap.size) (fun _ => False) rfl rfl ?aP (fun _ hk => hk.elim) ?aF ?aO ?aB ?aS ?aL ?_; (case aP => exact rfl); (case aF => exact fun k hk => by have := HG2.out; omega); (case aO => exact HO1.out); (case aB => exact HW2.out); (case aS => exact HW2.out.size); (case aL => have := HL.out; omega); intro v1 wA ho1 hb1 hg1 hat1; obtain ⟨g1, cA, ev1, -, -, -, -⟩ := Kd.R_form ho1 (by simp); rw [show (p ++ [rd (bytesOf a0) (i : Int)]).length = p.length + 1 by simp] at ev1; subst ev1; have HO3 := Lib.hid ho1; have HCP := Lib.hid (R_readsC ho1).1; have HLC := Lib.hid (R_readsC ho1).2; have HW3 := Lib.hid hb1; have HC3 := Lib.hid (C_kept HC2.out hg1 HG2.out (fun k hk => (HO1.out.1 k hk))); have HG3 : Hid (w1.heap.size < wA.heap.size) := Lib.hid (Nat.lt_of_lt_of_le HG2.out hg1.size); clear ho1 hb1 hg1 hat1) | (go_at_call 139; refine (l1walk_due (i := (i : Int) + 1) HC3.out HCC.out _ HD.out).mono ?_; rintro e w' ⟨rfl, ⟨nd, rfl⟩⟩) | (go_at_call 87; refine (l1walk_field (k := kj) (p := p ++ [rd (bytesOf a0) (i : Int)]) (Kd.C_below HCP.out (by repeat (first | exact Below.refl _ _ | apply pw_below_drewN | apply below_drew))) HLC.out HX.out).mono ?_; rintro e w' ⟨rfl, ⟨nf, rfl⟩⟩))
              go_roundw
              case rel => exact ⟨kj, i + 1, _, cl, (x == 11), rfl, rfl, by go_num, hp, ⟨HN.out⟩, ⟨by have := HL.out; simp; omega⟩, ⟨Kd.R_below HO3.out (by repeat (first | exact Below.refl _ _ | apply pw_below_drewN | apply below_drew))⟩, ⟨by repeat (first | exact HW3.out | apply pw_below_drewN | apply below_drew)⟩, ⟨Kd.C_below HC3.out (by repeat (first | exact Below.refl _ _ | apply pw_below_drewN | apply below_drew))⟩, ⟨HG3.out⟩⟩
              case measure => simp [intOf]; omega
        · have hdd : Hid (due = due) := Lib.hid rfl
          cases due with
          | true =>
            have H := HH.out
            clear HH
            rw [if_pos rfl] at H
            by_cases h1i : 1 ≤ i
            · rw [if_pos h1i] at H
              have hcell2 := C_cell HC.out (i - 1) (by omega)
              have HW1 : Hid (IntKind.i64.wrap ((i : Int) - 1) = ((i - 1 : Nat) : Int)) := Lib.hid (by rw [IntKind.wrap_i64]; omega)
              have HI1 : Hid (i - 1 < a0.size) := Lib.hid (by omega)
              by_cases hx0 : rd (bytesOf a0) (i : Int) = rd (bytesOf a0) ((i - 1 : Nat) : Int)
              · rw [if_pos hx0] at H
                have hxb : (rd (bytesOf a0) (i : Int) == rd (bytesOf a0) ((i - 1 : Nat) : Int)) = true := beq_iff_eq.mpr hx0
                have HT := Lib.hid (tail_is H)
                clear H hx0
                obtain ⟨yy, hyy⟩ : ∃ yy, rd (bytesOf a0) ((i - 1 : Nat) : Int) = yy := ⟨_, rfl⟩
                rw [hyy] at hcell2 hxb
                clear hyy
                go_wp2_with (fail)
                have hi1 := HI1.out
                have hw1 := HW1.out
                go_quiet (fail)
                clear hw1 hi1 hcell2
                generalize hWq : wr.drewN nq = wq
                have HO1 : Hid (Kd.R (Kd.int .u8) 5 wq w.heap.size (fun k => k ≠ w1.heap.size) (.slice A5 p.length c5) p) := Lib.hid (hWq ▸ Kd.R_below HO.out (pw_below_drewN (Below.refl _ _) nq))
                have HW2 : Hid (Below w.heap.size w wq) := Lib.hid (hWq ▸ pw_below_drewN HW.out nq)
                have HC2 : Hid (Kd.C (Kd.int .u8) wq (some ⟨w1.heap.size, 0, none⟩) a0.size (bytesOf a0)) := Lib.hid (hWq ▸ Kd.C_below HC.out (pw_below_drewN (Below.refl _ _) nq))
                have HG2 : Hid (w1.heap.size < wq.heap.size) := Lib.hid (hWq ▸ HG.out)
                clear hWq
                cases HT.out with
                | off hd hn =>
                  have HD := Lib.hid (show spec_l1due.f (bytesOf a0) ((i : Int) + 1) = some _ from hd)
                  have HN := Lib.hid hn
                  clear hd hn
                  go_wp2_with (go_at_call 139; refine (l1walk_due (i := (i : Int) + 1) (Kd.C_below HC2.out (by repeat (first | exact Below.refl _ _ | apply pw_below_drewN | apply below_drew))) HCC.out _ HD.out).mono ?_; rintro e w' ⟨rfl, ⟨nd, rfl⟩⟩)
                  go_roundw
                  case rel => exact ⟨kj, i + 1, p, 3, false, rfl, rfl, by go_num, hp, ⟨HN.out⟩, ⟨Nat.le_succ_of_le HL.out⟩, ⟨Kd.R_below HO1.out (by repeat (first | exact Below.refl _ _ | apply pw_below_drewN | apply below_drew))⟩, ⟨by repeat (first | exact HW2.out | apply pw_below_drewN | apply below_drew)⟩, ⟨Kd.C_below HC2.out (by repeat (first | exact Below.refl _ _ | apply pw_below_drewN | apply below_drew))⟩, ⟨HG2.out⟩⟩
                  case measure => simp [intOf]; omega
                | low hd x hx hl hn =>
                  have HD := Lib.hid (show spec_l1due.f (bytesOf a0) ((i : Int) + 1) = some _ from hd)
                  have HN := Lib.hid hn
                  have HX := Lib.hid hx
                  have hlb : decide (x ≤ 10) = true := decide_eq_true hl
                  clear hd hn hx hl
                  go_wp2_with (first | (go_at_call 139; refine (l1walk_due (i := (i : Int) + 1) (Kd.C_below HC2.out (by repeat (first | exact Below.refl _ _ | apply pw_below_drewN | apply below_drew))) HCC.out _ HD.out).mono ?_; rintro e w' ⟨rfl, ⟨nd, rfl⟩⟩) | (go_at_call 87; refine (l1walk_field (k := kj) (p := p) (Kd.C_below (Kd.R_reads' HO1.out).2.2 (by repeat (first | exact Below.refl _ _ | apply pw_below_drewN | apply below_drew))) (Kd.R_reads' HO1.out).2.1 HX.out).mono ?_; rintro e w' ⟨rfl, ⟨nf, rfl⟩⟩))
                  go_roundw
                  case rel => exact ⟨kj, i + 1, p, 3, true, rfl, rfl, by go_num, hp, ⟨HN.out⟩, ⟨Nat.le_succ_of_le HL.out⟩, ⟨Kd.R_below HO1.out (by repeat (first | exact Below.refl _ _ | apply pw_below_drewN | apply below_drew))⟩, ⟨by repeat (first | exact HW2.out | apply pw_below_drewN | apply below_drew)⟩, ⟨Kd.C_below HC2.out (by repeat (first | exact Below.refl _ _ | apply pw_below_drewN | apply below_drew))⟩, ⟨HG2.out⟩⟩
                  case measure => simp [intOf]; omega
                | high hd x hx hl hn =>
                  have HD := Lib.hid (show spec_l1due.f (bytesOf a0) ((i : Int) + 1) = some _ from hd)
                  have HN := Lib.hid hn
                  have HX := Lib.hid hx
                  have hlb : decide (x ≤ 10) = false := decide_eq_false hl
                  clear hd hn hx hl
                  go_wp2_with (first | (go_at_call 139; refine (l1walk_due (i := (i : Int) + 1) (Kd.C_below HC2.out (by repeat (first | exact Below.refl _ _ | apply pw_below_drewN | apply below_drew))) HCC.out _ HD.out).mono ?_; rintro e w' ⟨rfl, ⟨nd, rfl⟩⟩) | (go_at_call 87; refine (l1walk_field (k := kj) (p := p) (Kd.C_below (Kd.R_reads' HO1.out).2.2 (by repeat (first | exact Below.refl _ _ | apply pw_below_drewN | apply below_drew))) (Kd.R_reads' HO1.out).2.1 HX.out).mono ?_; rintro e w' ⟨rfl, ⟨nf, rfl⟩⟩))
                  go_roundw
                  case rel => exact ⟨kj, i + 1, p, 3, (x == 11), rfl, rfl, by go_num, hp, ⟨HN.out⟩, ⟨Nat.le_succ_of_le HL.out⟩, ⟨Kd.R_below HO1.out (by repeat (first | exact Below.refl _ _ | apply pw_below_drewN | apply below_drew))⟩, ⟨by repeat (first | exact HW2.out | apply pw_below_drewN | apply below_drew)⟩, ⟨Kd.C_below HC2.out (by repeat (first | exact Below.refl _ _ | apply pw_below_drewN | apply below_drew))⟩, ⟨HG2.out⟩⟩
                  case measure => simp [intOf]; omega
              · rw [if_neg hx0] at H
                have hxb : (rd (bytesOf a0) (i : Int) == rd (bytesOf a0) ((i - 1 : Nat) : Int)) = false := beq_eq_false_iff_ne.mpr hx0
                have HT := Lib.hid (tail_is H)
                clear H hx0
                obtain ⟨yy, hyy⟩ : ∃ yy, rd (bytesOf a0) ((i - 1 : Nat) : Int) = yy := ⟨_, rfl⟩
                rw [hyy] at hcell2 hxb
                clear hyy
                go_wp2_with (fail)
                have hi1 := HI1.out
                have hw1 := HW1.out
                go_quiet (fail)
                clear hw1 hi1 hcell2
                generalize hWq : wr.drewN nq = wq
                have HO1 : Hid (Kd.R (Kd.int .u8) 5 wq w.heap.size (fun k => k ≠ w1.heap.size) (.slice A5 p.length c5) p) := Lib.hid (hWq ▸ Kd.R_below HO.out (pw_below_drewN (Below.refl _ _) nq))
                have HW2 : Hid (Below w.heap.size w wq) := Lib.hid (hWq ▸ pw_below_drewN HW.out nq)
                have HC2 : Hid (Kd.C (Kd.int .u8) wq (some ⟨w1.heap.size, 0, none⟩) a0.size (bytesOf a0)) := Lib.hid (hWq ▸ Kd.C_below HC.out (pw_below_drewN (Below.refl _ _) nq))
                have HG2 : Hid (w1.heap.size < wq.heap.size) := Lib.hid (hWq ▸ HG.out)
                clear hWq
                cases HT.out with
                | off hd hn =>
                  have HD := Lib.hid (show spec_l1due.f (bytesOf a0) ((i : Int) + 1) = some _ from hd)
                  have HN := Lib.hid hn
                  clear hd hn
                  go_wp2_with (go_at_call 139; refine (l1walk_due (i := (i : Int) + 1) (Kd.C_below HC2.out (by repeat (first | exact Below.refl _ _ | apply pw_below_drewN | apply below_drew))) HCC.out _ HD.out).mono ?_; rintro e w' ⟨rfl, ⟨nd, rfl⟩⟩)
                  go_roundw
                  case rel => exact ⟨kj, i + 1, p, 0, false, rfl, rfl, by go_num, hp, ⟨HN.out⟩, ⟨Nat.le_succ_of_le HL.out⟩, ⟨Kd.R_below HO1.out (by repeat (first | exact Below.refl _ _ | apply pw_below_drewN | apply below_drew))⟩, ⟨by repeat (first | exact HW2.out | apply pw_below_drewN | apply below_drew)⟩, ⟨Kd.C_below HC2.out (by repeat (first | exact Below.refl _ _ | apply pw_below_drewN | apply below_drew))⟩, ⟨HG2.out⟩⟩
                  case measure => simp [intOf]; omega
                | low hd x hx hl hn =>
                  have HD := Lib.hid (show spec_l1due.f (bytesOf a0) ((i : Int) + 1) = some _ from hd)
                  have HN := Lib.hid hn
                  have HX := Lib.hid hx
                  have hlb : decide (x ≤ 10) = true := decide_eq_true hl
                  clear hd hn hx hl
                  go_wp2_with (first | (go_at_call 139; refine (l1walk_due (i := (i : Int) + 1) (Kd.C_below HC2.out (by repeat (first | exact Below.refl _ _ | apply pw_below_drewN | apply below_drew))) HCC.out _ HD.out).mono ?_; rintro e w' ⟨rfl, ⟨nd, rfl⟩⟩) | (go_at_call 87; refine (l1walk_field (k := kj) (p := p) (Kd.C_below (Kd.R_reads' HO1.out).2.2 (by repeat (first | exact Below.refl _ _ | apply pw_below_drewN | apply below_drew))) (Kd.R_reads' HO1.out).2.1 HX.out).mono ?_; rintro e w' ⟨rfl, ⟨nf, rfl⟩⟩))
                  go_roundw
                  case rel => exact ⟨kj, i + 1, p, 0, true, rfl, rfl, by go_num, hp, ⟨HN.out⟩, ⟨Nat.le_succ_of_le HL.out⟩, ⟨Kd.R_below HO1.out (by repeat (first | exact Below.refl _ _ | apply pw_below_drewN | apply below_drew))⟩, ⟨by repeat (first | exact HW2.out | apply pw_below_drewN | apply below_drew)⟩, ⟨Kd.C_below HC2.out (by repeat (first | exact Below.refl _ _ | apply pw_below_drewN | apply below_drew))⟩, ⟨HG2.out⟩⟩
                  case measure => simp [intOf]; omega
                | high hd x hx hl hn =>
                  have HD := Lib.hid (show spec_l1due.f (bytesOf a0) ((i : Int) + 1) = some _ from hd)
                  have HN := Lib.hid hn
                  have HX := Lib.hid hx
                  have hlb : decide (x ≤ 10) = false := decide_eq_false hl
                  clear hd hn hx hl
                  go_wp2_with (first | (go_at_call 139; refine (l1walk_due (i := (i : Int) + 1) (Kd.C_below HC2.out (by repeat (first | exact Below.refl _ _ | apply pw_below_drewN | apply below_drew))) HCC.out _ HD.out).mono ?_; rintro e w' ⟨rfl, ⟨nd, rfl⟩⟩) | (go_at_call 87; refine (l1walk_field (k := kj) (p := p) (Kd.C_below (Kd.R_reads' HO1.out).2.2 (by repeat (first | exact Below.refl _ _ | apply pw_below_drewN | apply below_drew))) (Kd.R_reads' HO1.out).2.1 HX.out).mono ?_; rintro e w' ⟨rfl, ⟨nf, rfl⟩⟩))
                  go_roundw
                  case rel => exact ⟨kj, i + 1, p, 0, (x == 11), rfl, rfl, by go_num, hp, ⟨HN.out⟩, ⟨Nat.le_succ_of_le HL.out⟩, ⟨Kd.R_below HO1.out (by repeat (first | exact Below.refl _ _ | apply pw_below_drewN | apply below_drew))⟩, ⟨by repeat (first | exact HW2.out | apply pw_below_drewN | apply below_drew)⟩, ⟨Kd.C_below HC2.out (by repeat (first | exact Below.refl _ _ | apply pw_below_drewN | apply below_drew))⟩, ⟨HG2.out⟩⟩
                  case measure => simp [intOf]; omega
            · rw [if_neg h1i] at H
              exact absurd H (by simp)
          | false =>
            have H := HH.out
            clear HH
            rw [if_neg (by decide)] at H
            obtain ⟨cl, hcl, H⟩ := Option.bind_eq_some_iff.1 H
            have HCL := Lib.hid hcl
            have HT := Lib.hid (tail_is H)
            clear H hcl
            cases HT.out with
            | off hd hn =>
              have HD := Lib.hid (show spec_l1due.f (bytesOf a0) ((i : Int) + 1) = some _ from hd)
              have HN := Lib.hid hn
              clear hd hn
              go_wp2_with (first | (go_at_call 138; refine (spec_l1look.calls kj A5 c5 p _ cl _ (Kd.R_reads' HO.out).2.2 (Kd.R_reads' HO.out).2.1 HCL.out).mono ?_; rintro e wl ⟨rfl, hbl⟩; have HO1 := Lib.hid (Kd.R_below HO.out hbl); have HW2 := Lib.hid (HW.out.trans (hbl.mono HW.out.size)); have HC2 := Lib.hid (Kd.C_below HC.out hbl); have HG2 : Hid (w1.heap.size < wl.heap.size) := Lib.hid (Nat.lt_of_lt_of_le HG.out hbl.size); have hcell := C_cell HC2.out i hp; clear hbl) | (at_builtin; refine Kd.R_append (Kd.int .u8) (w0 := w) w.heap.size rfl (.tmp 47) (.tmp 52) 22 5 (.int .u8 0) 1 rfl Try.underlying22 infoU8 rfl (by decide) (by omega) _ p (rd (bytesOf a0) (i : Int)) [.int .u8 (rd (bytesOf a0) (i : Int))] (fun k => k ≠ w1.heap.size) (fun _ => False) rfl rfl ?aP (fun _ hk => hk.elim) ?aF ?aO ?aB ?aS ?aL ?_; (case aP => exact rfl); (case aF => exact fun k hk => by have := HG2.out; omega); (case aO => exact HO1.out); (case aB => exact HW2.out); (case aS => exact HW2.out.size); (case aL => have := HL.out; omega); intro v1 wA ho1 hb1 hg1 hat1; obtain ⟨g1, cA, ev1, -, -, -, -⟩ := Kd.R_form ho1 (by simp); rw [show (p ++ [rd (bytesOf a0) (i : Int)]).length = p.length + 1 by simp] at ev1; subst ev1; have HO3 := Lib.hid ho1; have HCP := Lib.hid (R_readsC ho1).1; have HLC := Lib.hid (R_readsC ho1).2; have HW3 := Lib.hid hb1; have HC3 := Lib.hid (C_kept HC2.out hg1 HG2.out (fun k hk => (HO1.out.1 k hk))); have HG3 : Hid (w1.heap.size < wA.heap.size) := Lib.hid (Nat.lt_of_lt_of_le HG2.out hg1.size); clear ho1 hb1 hg1 hat1) | (go_at_call 139; refine (l1walk_due (i := (i : Int) + 1) HC3.out HCC.out _ HD.out).mono ?_; rintro e w' ⟨rfl, ⟨nd, rfl⟩⟩))
              go_roundw
              case rel => exact ⟨kj, i + 1, _, cl, false, rfl, rfl, by go_num, hp, ⟨HN.out⟩, ⟨by have := HL.out; simp; omega⟩, ⟨Kd.R_below HO3.out (by repeat (first | exact Below.refl _ _ | apply pw_below_drewN | apply below_drew))⟩, ⟨by repeat (first | exact HW3.out | apply pw_below_drewN | apply below_drew)⟩, ⟨Kd.C_below HC3.out (by repeat (first | exact Below.refl _ _ | apply pw_below_drewN | apply below_drew))⟩, ⟨HG3.out⟩⟩
              case measure => simp [intOf]; omega
            | low hd x hx hl hn =>
              have HD := Lib.hid (show spec_l1due.f (bytesOf a0) ((i : Int) + 1) = some _ from hd)
              have HN := Lib.hid hn
              have HX := Lib.hid hx
              have hlb : decide (x ≤ 10) = true := decide_eq_true hl
              clear hd hn hx hl
              go_wp2_with (first | (go_at_call 138; refine (spec_l1look.calls kj A5 c5 p _ cl _ (Kd.R_reads' HO.out).2.2 (Kd.R_reads' HO.out).2.1 HCL.out).mono ?_; rintro e wl ⟨rfl, hbl⟩; have HO1 := Lib.hid (Kd.R_below HO.out hbl); have HW2 := Lib.hid (HW.out.trans (hbl.mono HW.out.size)); have HC2 := Lib.hid (Kd.C_below HC.out hbl); have HG2 : Hid (w1.heap.size < wl.heap.size) := Lib.hid (Nat.lt_of_lt_of_le HG.out hbl.size); have hcell := C_cell HC2.out i hp; clear hbl) | (at_builtin; refine Kd.R_append (Kd.int .u8) (w0 := w) w.heap.size rfl (.tmp 47) (.tmp 52) 22 5 (.int .u8 0) 1 rfl Try.underlying22 infoU8 rfl (by decide) (by omega) _ p (rd (bytesOf a0) (i : Int)) [.int .u8 (rd (bytesOf a0) (i : Int))] (fun k => k ≠ w1.heap.size) (fun _ => False) rfl rfl ?aP (fun _ hk => hk.elim) ?aF ?aO ?aB ?aS ?aL ?_; (case aP => exact rfl); (case aF => exact fun k hk => by have := HG2.out; omega); (case aO => exact HO1.out); (case aB => exact HW2.out); (case aS => exact HW2.out.size); (case aL => have := HL.out; omega); intro v1 wA ho1 hb1 hg1 hat1; obtain ⟨g1, cA, ev1, -, -, -, -⟩ := Kd.R_form ho1 (by simp); rw [show (p ++ [rd (bytesOf a0) (i : Int)]).length = p.length + 1 by simp] at ev1; subst ev1; have HO3 := Lib.hid ho1; have HCP := Lib.hid (R_readsC ho1).1; have HLC := Lib.hid (R_readsC ho1).2; have HW3 := Lib.hid hb1; have HC3 := Lib.hid (C_kept HC2.out hg1 HG2.out (fun k hk => (HO1.out.1 k hk))); have HG3 : Hid (w1.heap.size < wA.heap.size) := Lib.hid (Nat.lt_of_lt_of_le HG2.out hg1.size); clear ho1 hb1 hg1 hat1) | (go_at_call 139; refine (l1walk_due (i := (i : Int) + 1) HC3.out HCC.out _ HD.out).mono ?_; rintro e w' ⟨rfl, ⟨nd, rfl⟩⟩) | (go_at_call 87; refine (l1walk_field (k := kj) (p := p ++ [rd (bytesOf a0) (i : Int)]) (Kd.C_below HCP.out (by repeat (first | exact Below.refl _ _ | apply pw_below_drewN | apply below_drew))) HLC.out HX.out).mono ?_; rintro e w' ⟨rfl, ⟨nf, rfl⟩⟩))
              go_roundw
              case rel => exact ⟨kj, i + 1, _, cl, true, rfl, rfl, by go_num, hp, ⟨HN.out⟩, ⟨by have := HL.out; simp; omega⟩, ⟨Kd.R_below HO3.out (by repeat (first | exact Below.refl _ _ | apply pw_below_drewN | apply below_drew))⟩, ⟨by repeat (first | exact HW3.out | apply pw_below_drewN | apply below_drew)⟩, ⟨Kd.C_below HC3.out (by repeat (first | exact Below.refl _ _ | apply pw_below_drewN | apply below_drew))⟩, ⟨HG3.out⟩⟩
              case measure => simp [intOf]; omega
            | high hd x hx hl hn =>
              have HD := Lib.hid (show spec_l1due.f (bytesOf a0) ((i : Int) + 1) = some _ from hd)
              have HN := Lib.hid hn
              have HX := Lib.hid hx
              have hlb : decide (x ≤ 10) = false := decide_eq_false hl
              clear hd hn hx hl
              go_wp2_with (first | (go_at_call 138; refine (spec_l1look.calls kj A5 c5 p _ cl _ (Kd.R_reads' HO.out).2.2 (Kd.R_reads' HO.out).2.1 HCL.out).mono ?_; rintro e wl ⟨rfl, hbl⟩; have HO1 := Lib.hid (Kd.R_below HO.out hbl); have HW2 := Lib.hid (HW.out.trans (hbl.mono HW.out.size)); have HC2 := Lib.hid (Kd.C_below HC.out hbl); have HG2 : Hid (w1.heap.size < wl.heap.size) := Lib.hid (Nat.lt_of_lt_of_le HG.out hbl.size); have hcell := C_cell HC2.out i hp; clear hbl) | (at_builtin; refine Kd.R_append (Kd.int .u8) (w0 := w) w.heap.size rfl (.tmp 47) (.tmp 52) 22 5 (.int .u8 0) 1 rfl Try.underlying22 infoU8 rfl (by decide) (by omega) _ p (rd (bytesOf a0) (i : Int)) [.int .u8 (rd (bytesOf a0) (i : Int))] (fun k => k ≠ w1.heap.size) (fun _ => False) rfl rfl ?aP (fun _ hk => hk.elim) ?aF ?aO ?aB ?aS ?aL ?_; (case aP => exact rfl); (case aF => exact fun k hk => by have := HG2.out; omega); (case aO => exact HO1.out); (case aB => exact HW2.out); (case aS => exact HW2.out.size); (case aL => have := HL.out; omega); intro v1 wA ho1 hb1 hg1 hat1; obtain ⟨g1, cA, ev1, -, -, -, -⟩ := Kd.R_form ho1 (by simp); rw [show (p ++ [rd (bytesOf a0) (i : Int)]).length = p.length + 1 by simp] at ev1; subst ev1; have HO3 := Lib.hid ho1; have HCP := Lib.hid (R_readsC ho1).1; have HLC := Lib.hid (R_readsC ho1).2; have HW3 := Lib.hid hb1; have HC3 := Lib.hid (C_kept HC2.out hg1 HG2.out (fun k hk => (HO1.out.1 k hk))); have HG3 : Hid (w1.heap.size < wA.heap.size) := Lib.hid (Nat.lt_of_lt_of_le HG2.out hg1.size); clear ho1 hb1 hg1 hat1) | (go_at_call 139; refine (l1walk_due (i := (i : Int) + 1) HC3.out HCC.out _ HD.out).mono ?_; rintro e w' ⟨rfl, ⟨nd, rfl⟩⟩) | (go_at_call 87; refine (l1walk_field (k := kj) (p := p ++ [rd (bytesOf a0) (i : Int)]) (Kd.C_below HCP.out (by repeat (first | exact Below.refl _ _ | apply pw_below_drewN | apply below_drew))) HLC.out HX.out).mono ?_; rintro e w' ⟨rfl, ⟨nf, rfl⟩⟩))
              go_roundw
              case rel => exact ⟨kj, i + 1, _, cl, (x == 11), rfl, rfl, by go_num, hp, ⟨HN.out⟩, ⟨by have := HL.out; simp; omega⟩, ⟨Kd.R_below HO3.out (by repeat (first | exact Below.refl _ _ | apply pw_below_drewN | apply below_drew))⟩, ⟨by repeat (first | exact HW3.out | apply pw_below_drewN | apply below_drew)⟩, ⟨Kd.C_below HC3.out (by repeat (first | exact Below.refl _ _ | apply pw_below_drewN | apply below_drew))⟩, ⟨HG3.out⟩⟩
              case measure => simp [intOf]; omega
      · rw [if_neg (by rw [bytesOf_length]; exact hp)] at H
        simp only [Option.some.injEq, Prod.mk.injEq] at H
        obtain ⟨rfl, rfl, rfl⟩ := H
        go_wp2_with (fail)
        go_ret3
        exact ⟨_, rfl, Kd.R_mono HO.out (fun _ _ => trivial), HW.out⟩
theorem spec_l1walk.calls (k : Nat) (a0 : ByteArray) (r1 : Int) (r2 : List Int) (r3 : Bool) (w : World) (h : spec_l1walk.f k a0 = some (r1, r2, r3)) :
    Calls Try.prog 86 #[.string a0] w fun e w' => ∃ v2_ : Value, e = .returned (.tuple #[.int .i64 r1, v2_, .bool r3]) ∧ Kd.R (Kd.int .u8) 5 w' w.heap.size (fun _ => True) v2_ r2 ∧ Below w.heap.size w w' := by
  unfold spec_l1walk.f at h
  by_cases c : a0.size ≤ 4000 ∧ isBits a0 = true
  · rw [if_pos c] at h
    exact spec_l1walk.yes k a0 r1 r2 r3 w c.1 c.2 h
  · rw [if_neg c] at h
    simp only [Option.some.injEq, Prod.mk.injEq] at h
    obtain ⟨rfl, rfl, rfl⟩ := h
    have hbt : Hid ((decide (a0.size ≤ 4000) && isBits a0) = false) := by
      refine Lib.hid ?_
      rw [Bool.and_eq_false_iff]
      by_cases h : isBits a0 = true
      · exact .inl (decide_eq_false fun h2 => c ⟨h2, h⟩)
      · exact .inr (by simpa using h)
    clear c
    go_enter Try.func86, Try.ntmps86
    go_wp2_with (go_at_call 128; refine (l1walk_okBits a0 _ false hbt.out).mono ?_; rintro e w1 ⟨rfl, hb1⟩; have HB1 := Lib.hid hb1; clear hb1)
    go_ret3
    exact ⟨_, rfl, Kd.R_mono (Kd.R_below (R_empty (Kd.int .u8) w 5 w.heap.size (Nat.le_refl _) (fun _ => True) trivial) HB1.out) (fun _ _ => trivial), Below.trans ((Below.refl _ _).alloc (Nat.le_refl _) _) (HB1.out.mono (by simp))⟩
end Go.Proofs.Ytdoclpgciadjaaa.P

namespace Go.Proofs.Ytdoclpgciadjaaa.P
open Go Go.RowKit Go.Proofs.YtdoclpgciadjaaaW.PrintWords
set_option linter.unusedVariables false
theorem due_total (l : List Int) (n : Nat) (hn : n ≤ l.length) (hl : l.length < 100000000) : ∃ b, spec_l1due.f l (n : Int) = some b := by
  unfold spec_l1due.f
  by_cases c : n < 5
  · rw [if_pos (by omega)]; exact ⟨_, rfl⟩
  · have w1 : wrap64 ((n : Int) - 1) = ((n - 1 : Nat) : Int) := by unfold wrap64; omega
    have w2 : wrap64 ((n : Int) - 2) = ((n - 2 : Nat) : Int) := by unfold wrap64; omega
    have w3 : wrap64 ((n : Int) - 3) = ((n - 3 : Nat) : Int) := by unfold wrap64; omega
    have w4 : wrap64 ((n : Int) - 4) = ((n - 4 : Nat) : Int) := by unfold wrap64; omega
    have w5 : wrap64 ((n : Int) - 5) = ((n - 5 : Nat) : Int) := by unfold wrap64; omega
    rw [if_neg (by omega), w1, w2, w3, w4, w5, if_pos (by omega), if_pos (by omega), if_pos (by omega), if_pos (by omega)]
    by_cases a1 : rd l ((n - 1 : Nat) : Int) = rd l ((n - 2 : Nat) : Int)
    · rw [if_pos a1, if_pos (by omega), if_pos (by omega)]
      by_cases a2 : rd l ((n - 2 : Nat) : Int) = rd l ((n - 3 : Nat) : Int)
      · rw [if_pos a2, if_pos (by omega), if_pos (by omega)]
        by_cases a3 : rd l ((n - 3 : Nat) : Int) = rd l ((n - 4 : Nat) : Int)
        · rw [if_pos a3, if_pos (by omega), if_pos (by omega)]; exact ⟨_, rfl⟩
        · rw [if_neg a3]; exact ⟨_, rfl⟩
      · rw [if_neg a2]; exact ⟨_, rfl⟩
    · rw [if_neg a1]; exact ⟨_, rfl⟩
theorem tail_total {all p : List Int} {i : Nat} {x : Int} (hi : i < all.length) (hl : all.length < 100000000) (hf : Ev (fun k => spec_l1field.f k p) x) : ∃ b, ∀ (g : Nat → Bool → Option (Int × List Int × Bool)) (R : Int × List Int × Bool), Ev (fun k => g k b) R → Ev (fun k => spec_l1walk.tail k all p i (g k)) R := by
  obtain ⟨d, hd⟩ := due_total all (i + 1) (by omega) hl
  cases d with
  | false => exact ⟨false, fun g R h => ev_some hd (ev_neg (by decide) h)⟩
  | true =>
    by_cases c : x ≤ 10
    · exact ⟨true, fun g R h => ev_some hd (ev_pos rfl (Ev.bind hf (ev_pos c h)))⟩
    · exact ⟨x == 11, fun g R h => ev_some hd (ev_pos rfl (Ev.bind hf (ev_neg c h)))⟩
theorem tail_at {all p : List Int} {i : Nat} {t : WS} (h : At all (i + 1) t p) (hi : i < all.length) (hl : all.length < 100000000) (g : Nat → Bool → Option (Int × List Int × Bool)) (R : Int × List Int × Bool) (hg : Ev (fun k => g k (dueW t)) R) : Ev (fun k => spec_l1walk.tail k all p i (g k)) R := by
  have hf : Ev (fun k => spec_l1field.f k p) t.field := field_ev h.ph h.bits
  by_cases c11 : t.field ≤ 11
  · obtain ⟨run, last, ht, hrun, -⟩ := h.trail c11
    have r1 := h.r1
    have hd := due_eq ht (by omega) (by omega)
    by_cases h5 : run = 5
    · rw [decide_eq_true h5] at hd
      have hdw : dueW t = true := by unfold dueW; rw [show (t.run == 5) = true by simp; omega, decide_eq_true c11]; rfl
      rw [hdw] at hg
      refine ev_some hd (ev_pos rfl (Ev.bind hf ?_))
      by_cases c : t.field ≤ 10
      · exact ev_pos c hg
      · refine ev_neg c ?_
        rw [show (t.field == 11) = true by simp; omega]
        exact hg
    · rw [decide_eq_false h5] at hd
      have hdw : dueW t = false := by unfold dueW; rw [show (t.run == 5) = false by simp; omega]; rfl
      rw [hdw] at hg
      exact ev_some hd (ev_neg (by decide) hg)
  · have hdw : dueW t = false := by unfold dueW; rw [decide_eq_false c11, Bool.and_false]
    rw [hdw] at hg
    obtain ⟨d, hd⟩ := due_total all (i + 1) (by omega) hl
    cases d with
    | false => exact ev_some hd (ev_neg (by decide) hg)
    | true =>
      refine ev_some hd (ev_pos rfl (Ev.bind hf (ev_neg (by omega) ?_)))
      rw [show (t.field == 11) = false by simp; omega]
      exact hg
theorem field_next {p : List Int} {s : WS} (h : Ph p (core s) s.sum) (hp : Bits p) (b : Int) (hb : b = 48 ∨ b = 49) : ∃ x, Ev (fun k => spec_l1field.f k (p ++ [b])) x := by
  by_cases hend : s.field = 14 ∧ s.left = 1
  · generalize hg : core s = cc at h
    generalize hm : s.sum = mm at h
    cases h with
    | eof H D X C T e r i h d x c t3 t =>
      have hD : Bits D := bits_len hp D (fun x hx => by simp [hx])
      have hr := dataB_range (r := r) (V_range hD).1
      have := field_full (R := X ++ C ++ T ++ [b]) h d hD (by simp; omega)
      rw [show H ++ D ++ (X ++ C ++ T ++ [b]) = H ++ D ++ X ++ C ++ T ++ [b] by simp] at this
      exact ⟨_, this⟩
    | del H D X C T e r i h d x c t => exfalso; have := (core_is hg hm).f; omega
    | _ => exfalso; have := (core_is hg hm).f; omega
  · obtain ⟨c', m', hP, -, -⟩ := ph_step h s rfl rfl b hb hp hend
    exact ⟨_, field_ev hP (hp.append (fun x hx => by rw [List.mem_singleton] at hx; rw [hx]; exact hb))⟩
structure DecAt (p : List Int) (t : WS) (H D X R : List Int) (e r : Bool) (i : Int) : Prop where
  eq : p = H ++ D ++ X ++ R
  hd : Hd H e r i
  dl : D.length = 4
  xl : (X.length : Int) = 8 * dataB r (V D)
  bits : Bits p
  te : t.ext = e
  ti : t.id = i
  tr : t.rtr = r
  td : t.dlc = V D
  tx : t.data = bytesB X
theorem codeL_one {s : WS} {b : Int} (h : codeL s b = 1) : s.field = 14 ∧ s.left = 2 := by
  unfold codeL at h
  (repeat' split at h) <;> first | omega | (constructor <;> omega)
theorem codeL_two {s : WS} {b : Int} (h : codeL s b = 2) : s.field = 14 ∧ s.left = 1 := by
  unfold codeL at h
  (repeat' split at h) <;> first | omega | (constructor <;> omega)
theorem hear14 {s : WS} (hf : s.field = 14) (c : Int) : ∃ cd, hearW s c = nextW { s with code := cd, run := 0 } := by
  have hd0 : ¬ dueW { s with code := 0 } = true := by unfold dueW; rw [decide_eq_false (by show ¬ s.field ≤ 11; omega), Bool.and_false]; decide
  have e : hearW s c = plainW { s with code := 0, run := 0 } (c - 48) := by
    unfold hearW
    simp only []
    rw [if_neg hd0, if_neg (by omega)]
  rw [e]
  unfold plainW
  have e1 : sumW { s with code := 0, run := 0 } (c - 48) = { s with code := 0, run := 0 } := by unfold sumW; rw [if_neg (by show ¬ s.field ≤ 9; omega)]
  rw [e1]
  have e2 : takeW { s with code := 0, run := 0 } (c - 48) = endW { s with code := 0, run := 0 } (c - 48) := by
    unfold takeW
    rw [if_neg (by show ¬ s.field = 1; omega), if_neg (by show ¬ (s.field = 2 ∨ s.field = 5); omega), if_neg (by show ¬ (s.field = 3 ∨ s.field = 6); omega), if_neg (by show ¬ s.field = 4; omega), if_neg (by show ¬ s.field = 8; omega), if_neg (by show ¬ s.field = 9; omega), if_neg (by show ¬ s.field = 10; omega), if_neg (by show ¬ s.field = 11; omega), if_neg (by show ¬ s.field = 13; omega), if_pos hf]
  rw [e2]
  unfold endW
  (repeat' split) <;> exact ⟨_, rfl⟩
theorem hear14_field {s : WS} (hf : s.field = 14) (hl : s.left = 2) (c : Int) : (hearW s c).field = 14 := by
  obtain ⟨cd, e⟩ := hear14 hf c
  rw [e, nextW_eq]
  show (nextP { s with code := cd, run := 0 }).1 = 14
  unfold nextP
  rw [if_pos (by show s.left - 1 > 0; omega)]
  exact hf
theorem hear14_keep {s : WS} (hf : s.field = 14) (c : Int) : (hearW s c).ext = s.ext ∧ (hearW s c).id = s.id ∧ (hearW s c).rtr = s.rtr ∧ (hearW s c).dlc = s.dlc ∧ (hearW s c).data = s.data := by
  obtain ⟨cd, e⟩ := hear14 hf c
  rw [e, nextW_eq]
  exact ⟨rfl, rfl, rfl, rfl, rfl⟩
theorem dec_of_ph {p : List Int} {s : WS} (h : Ph p (core s) s.sum) (hp : Bits p) (hf : s.field = 14) : ∃ H D X R e r i, DecAt p s H D X R e r i := by
  generalize hg : core s = cc at h
  generalize hm : s.sum = mm at h
  cases h with
  | eof H D X C T e r i h d x c t3 t =>
    have K := core_is hg hm
    exact ⟨H, D, X, C ++ T, e, r, i, by rw [← List.append_assoc], h, d, x, hp, K.e, K.i, K.r, K.d, K.x⟩
  | del H D X C T e r i h d x c t => exfalso; have := (core_is hg hm).f; omega
  | _ => exfalso; have := (core_is hg hm).f; omega
theorem dec_whole {p : List Int} {s : WS} (h : Ph p (core s) s.sum) (hp : Bits p) (hf : s.field = 14) (c : Int) (hc : c = 48 ∨ c = 49) : ∃ H D X R e r i, DecAt (p ++ [c]) (hearW s c) H D X R e r i := by
  obtain ⟨H, D, X, R, e, r, i, K⟩ := dec_of_ph h hp hf
  obtain ⟨k1, k2, k3, k4, k5⟩ := hear14_keep hf c
  exact ⟨H, D, X, R ++ [c], e, r, i, by rw [K.eq, ← List.append_assoc], K.hd, K.dl, K.xl, hp.append (fun x hx => by rw [List.mem_singleton] at hx; rw [hx]; exact hc), k1.trans K.te, k2.trans K.ti, k3.trans K.tr, k4.trans K.td, k5.trans K.tx⟩
structure SpecEnd (all : List Int) (t : WS) (R : Int × List Int × Bool) : Prop where
  code : R.1 = t.code
  live : t.code = 0 ∨ t.code = 1 → At all all.length t R.2.1 ∧ R.2.2 = dueW t
  dec : t.code = 1 ∨ t.code = 2 → ∃ H D X Z e r i, DecAt R.2.1 t H D X Z e r i
  len : R.2.1.length ≤ 4000
theorem specwalk_loop (all : List Int) (hb : Bits all) (hl : all.length ≤ 4000) : ∀ (d i : Nat) (s : WS) (p : List Int), i + d = all.length → At all i s p → (s.code = 1 → s.field = 14) → ∃ R, Ev (fun k => spec_l1walk.l0 k all s.code p (dueW s) i) R ∧ SpecEnd all (walkG (all.drop i) s) R := by
  intro d
  induction d with
  | zero =>
    intro i s p hi h hv
    refine ⟨(s.code, p, dueW s), Ev.step (f := fun _ => some (s.code, p, dueW s)) (fun k => ?_) (Ev.now _), ?_⟩
    · rw [spec_l1walk.l0, if_neg (by omega)]
    · rw [List.drop_eq_nil_of_le (by omega)]
      obtain rfl : i = all.length := by omega
      refine ⟨rfl, fun _ => ⟨h, rfl⟩, fun hc => ?_, Nat.le_trans h.len hl⟩
      rw [walkG] at hc ⊢
      have := h.code
      exact dec_of_ph h.ph h.bits (hv (by omega))
  | succ d ih =>
    intro i s p hi h hv
    have his : i < all.length := by omega
    have hc : rd all (i : Int) = 48 ∨ rd all (i : Int) = 49 := hb _ (by have := rd_get all i his; exact List.mem_of_getElem? this)
    have hdrop : all.drop i = rd all (i : Int) :: all.drop (i + 1) := by
      rw [List.drop_eq_getElem_cons his]
      congr 1
      have := rd_get all i his
      rw [List.getElem?_eq_getElem his] at this
      exact Option.some.inj this
    have hcode := h.code
    have hrun : ¬ (s.code ≠ 0 ∧ s.code ≠ 1) := by omega
    -- behind a stop
    have stop : ∀ (c' : Int) (p' : List Int) (x : Int), ¬ (c' = 0 ∨ c' = 1) → Ev (fun k => spec_l1field.f k p') x → (hearW s (rd all (i : Int))).code = c' → (c' = 2 → ∃ H D X Z e r m, DecAt p' (hearW s (rd all (i : Int))) H D X Z e r m) → p'.length ≤ i + 1 → ∃ b R, (∀ R', Ev (fun k => spec_l1walk.l0 k all c' p' b (i + 1)) R' → Ev (fun k => spec_l1walk.tail k all p' i (fun d => spec_l1walk.l0 k all c' p' d (i + 1))) R') ∧ Ev (fun k => spec_l1walk.l0 k all c' p' b (i + 1)) R ∧ SpecEnd all (walkG (all.drop i) s) R := by
      intro c' p' x hne hf hcd hdec hpl
      obtain ⟨b, hbt⟩ := tail_total his (by omega) hf
      have hw : walkG (all.drop i) s = if all.drop (i + 1) = [] then hearW s (rd all (i : Int)) else { hearW s (rd all (i : Int)) with code := 7 } := by
        rw [hdrop, walkG, if_neg (by rw [hcd]; exact hne)]
      by_cases hlast : i + 1 < all.length
      · refine ⟨b, (7, p', false), fun R' hR' => hbt (fun k d => spec_l1walk.l0 k all c' p' d (i + 1)) R' hR', Ev.step (f := fun _ => some (7, p', false)) (fun k => ?_) (Ev.now _), ?_⟩
        · rw [spec_l1walk.l0, if_pos hlast, if_pos (by omega)]
        · rw [hw, if_neg (by intro h2; have := congrArg List.length h2; simp at this; omega)]
          exact ⟨rfl, fun h2 => by simp only [] at h2; omega, fun h2 => by simp only [] at h2; omega, by simp only []; omega⟩
      · refine ⟨b, (c', p', b), fun R' hR' => hbt (fun k d => spec_l1walk.l0 k all c' p' d (i + 1)) R' hR', Ev.step (f := fun _ => some (c', p', b)) (fun k => ?_) (Ev.now _), ?_⟩
        · rw [spec_l1walk.l0, if_neg hlast]
        · rw [hw, if_pos (List.drop_eq_nil_of_le (by omega))]
          exact ⟨hcd.symm, fun h2 => absurd (hcd ▸ h2) hne, fun h2 => hdec (by rw [← hcd]; omega), by simp only []; omega⟩
    have hfp : Ev (fun k => spec_l1field.f k p) s.field := field_ev h.ph h.bits
    cases at_step h his hb with
    | stop hd hlv hcd =>
      have hf11 : s.field ≤ 11 := by unfold dueW at hd; simp only [Bool.and_eq_true, decide_eq_true_eq] at hd; exact hd.2
      obtain ⟨run, last, ht, hr, hlev⟩ := h.trail hf11
      have h5 : run = 5 := by unfold dueW at hd; simp only [Bool.and_eq_true, beq_iff_eq] at hd; omega
      have hri := ht.run_le
      obtain ⟨b, R, hbt, hR, hS⟩ := stop 3 p s.field (by omega) hfp hcd (by omega) (by have := h.len; omega)
      refine ⟨R, Ev.step (f := fun k => spec_l1walk.tail k all p i (fun d => spec_l1walk.l0 k all 3 p d (i + 1))) (fun k => ?_) (hbt R hR), hS⟩
      rw [spec_l1walk.l0, if_pos his, if_neg hrun, if_pos hd, if_pos (by omega), if_pos (by rw [hlv, hlev (by omega)]; exact (ht.same (i - 1) (by omega) (by omega)).symm)]
    | skip hd hlv hcd ha =>
      have hf11 : s.field ≤ 11 := by unfold dueW at hd; simp only [Bool.and_eq_true, decide_eq_true_eq] at hd; exact hd.2
      obtain ⟨run, last, ht, hr, hlev⟩ := h.trail hf11
      have h5 : run = 5 := by unfold dueW at hd; simp only [Bool.and_eq_true, beq_iff_eq] at hd; omega
      have hri := ht.run_le
      obtain ⟨R, hR, hS⟩ := ih (i + 1) _ p (by omega) ha (fun h1 => by omega)
      rw [hcd] at hR
      refine ⟨R, Ev.step (f := fun k => spec_l1walk.tail k all p i (fun d => spec_l1walk.l0 k all 0 p d (i + 1))) (fun k => ?_) (tail_at ha his (by omega) (fun k d => spec_l1walk.l0 k all 0 p d (i + 1)) R hR), ?_⟩
      · rw [spec_l1walk.l0, if_pos his, if_neg hrun, if_pos hd, if_pos (by omega), if_neg (by rw [ht.same (i - 1) (by omega) (by omega), ← hlev (by omega)]; exact hlv)]
      · rw [hdrop, walkG, if_pos (.inl hcd)]; exact hS
    | take hd hcd ha =>
      have hlook := look_ev h.ph h.bits s rfl rfl _ hc
      rw [← hcd] at hlook
      by_cases hrn : (hearW s (rd all (i : Int))).code = 0 ∨ (hearW s (rd all (i : Int))).code = 1
      · have hat := ha hrn
        obtain ⟨R, hR, hS⟩ := ih (i + 1) _ _ (by omega) hat (fun h1 => by obtain ⟨q1, q2⟩ := codeL_one (hcd.symm.trans h1); exact hear14_field q1 q2 _)
        refine ⟨R, Ev.step (f := fun k => (spec_l1look.f k p (rd all (i : Int))).bind fun c => spec_l1walk.tail k all (p ++ [rd all (i : Int)]) i (fun d => spec_l1walk.l0 k all c (p ++ [rd all (i : Int)]) d (i + 1))) (fun k => ?_) (Ev.bind hlook (tail_at hat his (by omega) (fun k d => spec_l1walk.l0 k all (hearW s (rd all (i : Int))).code (p ++ [rd all (i : Int)]) d (i + 1)) R hR)), ?_⟩
        · rw [spec_l1walk.l0, if_pos his, if_neg hrun, if_neg (by rw [hd]; decide)]
        · rw [hdrop, walkG, if_pos hrn]; exact hS
      · obtain ⟨x, hx⟩ := field_next h.ph h.bits (rd all (i : Int)) hc
        obtain ⟨b, R, hbt, hR, hS⟩ := stop _ (p ++ [rd all (i : Int)]) x hrn hx rfl (fun h2 => by obtain ⟨q1, q2⟩ := codeL_two (hcd.symm.trans h2); exact dec_whole h.ph h.bits q1 _ hc) (by rw [List.length_append, List.length_singleton]; have := h.len; omega)
        refine ⟨R, Ev.step (f := fun k => (spec_l1look.f k p (rd all (i : Int))).bind fun c => spec_l1walk.tail k all (p ++ [rd all (i : Int)]) i (fun d => spec_l1walk.l0 k all c (p ++ [rd all (i : Int)]) d (i + 1))) (fun k => ?_) (Ev.bind hlook (hbt R hR)), hS⟩
        rw [spec_l1walk.l0, if_pos his, if_neg hrun, if_neg (by rw [hd]; decide)]
theorem specwalk_ev (a0 : ByteArray) : ∃ R, Ev (fun k => spec_l1walk.f k a0) R ∧ SpecEnd (bytesOf a0) (walkV a0) R := by
  unfold spec_l1walk.f walkV
  by_cases c : a0.size ≤ 4000 ∧ isBits a0 = true
  · obtain ⟨R, hR, hS⟩ := specwalk_loop (bytesOf a0) (bits_of_isBits c.2) (by rw [bytesOf_length]; exact c.1) (bytesOf a0).length 0 startW [] (by omega) (At.start _) (fun h => by simp [startW] at h)
    refine ⟨R, ev_pos c hR, ?_⟩
    rw [if_pos c]
    exact hS
  · refine ⟨(8, [], false), ev_neg c (Ev.now _), ?_⟩
    rw [if_neg c]
    exact ⟨rfl, fun h => by simp only [] at h; omega, fun h => by simp only [] at h; omega, by simp⟩
end Go.Proofs.Ytdoclpgciadjaaa.P

namespace Go.Proofs.Ytdoclpgciadjaaa.P
open Go Go.RowKit Go.Proofs.YtdoclpgciadjaaaW.PrintWords
set_option linter.unusedVariables false
theorem V_one (c : Int) : V [c] = c - 48 := by have := V_snoc [] c; rw [V_nil] at this; simpa using this
theorem bytesB_part (Y : List Int) (hY : Y.length % 8 = 0) : ∀ (Z : List Int), 0 < Z.length → Z.length ≤ 8 → bytesB (Y ++ Z) = bytesB Y ++ [V Z % 256] := by
  intro Z
  induction Z using revInd with
  | nil => intro h; simp at h
  | snoc Z c ih =>
    intro _ h8
    rw [List.length_append, List.length_singleton] at h8
    rw [← List.append_assoc, bytesB_snoc]
    by_cases hz : Z.length = 0
    · obtain rfl : Z = [] := List.eq_nil_of_length_eq_zero hz
      rw [List.append_nil, if_pos hY, List.nil_append, V_one]
    · rw [if_neg (by rw [List.length_append]; omega), ih (by omega) (by omega), V_snoc]
      have hl : (bytesB Y ++ [V Z % 256]).length = (bytesB Y).length + 1 := by simp
      rw [hl, Nat.add_sub_cancel, List.set_append_right _ _ (Nat.le_refl _), Nat.sub_self]
      have hr : rd (bytesB Y ++ [V Z % 256]) ((((bytesB Y).length + 1 : Nat) : Int) - 1) = V Z % 256 := by
        rw [show ((((bytesB Y).length + 1 : Nat) : Int) - 1) = (((bytesB Y).length : Nat) : Int) by omega]
        exact rd_app_at (bytesB Y) [] (V Z % 256)
      rw [hr]
      show bytesB Y ++ [(2 * (V Z % 256) + (c - 48)) % 256] = _
      congr 2
      omega
def decodeV (a0 : ByteArray) : Bool × Int × Bool × Int × List Int × Int :=
  let t := walkV a0
  if t.code = 1 ∨ t.code = 2 then (t.ext, t.id, t.rtr, t.dlc, t.data, t.code) else (false, 0, false, 0, [], t.code)
structure Reads9 (p : List Int) (e r : Bool) (i d : Int) (data : List Int) (h n : Nat) : Prop where
  lay : Ev (fun k => spec_l1lay.f k p) ((h : Int), (h : Int) + 8 * n)
  hh : h = if e = true then 39 else 19
  len : h + 8 * n ≤ p.length
  lim : p.length ≤ 5000
  nn : n ≤ 8
  vd : Ev (fun k => spec_l1val.f k (strOfNums ((p.take h).drop (h - 4)))) d
  d0 : 0 ≤ d ∧ d < 16
  vi : Ev (fun k => spec_l1val.f k (strOfNums ((p.take 12).drop 1))) (if e = true then V ((p.take 12).drop 1) else i)
  v1 : 0 ≤ V ((p.take 12).drop 1) ∧ V ((p.take 12).drop 1) < 2048
  ve : e = true → Ev (fun k => spec_l1val.f k (strOfNums ((p.take 12).drop 1 ++ (p.take 32).drop 14))) i
  i0 : 0 ≤ i ∧ i < 4294967296
  rb : e = false → r = (rd p 12 == 49)
  rx : e = true → r = (rd p 32 == 49)
  v8 : ∀ j, j < n → ∃ v, Ev (fun k => spec_l1val.f k (strOfNums ((p.take (h + 8 * j + 8)).drop (h + 8 * j)))) v ∧ data.take (j + 1) = data.take j ++ [v % 256] ∧ 0 ≤ v ∧ v < 256
  dl : data.length = n
theorem take_drop_mid (A B C : List Int) : ((A ++ B ++ C).take (A.length + B.length)).drop A.length = B := by
  rw [List.append_assoc, List.take_length_add_append, List.drop_left', List.take_left'] <;> simp
theorem mid_of {p A B C : List Int} (h : p = A ++ B ++ C) {m l : Nat} (hl : l = A.length) (hm : m = A.length + B.length) : (p.take m).drop l = B := by
  subst h hl hm; exact take_drop_mid A B C
theorem bits_part {p A B C : List Int} (h : p = A ++ B ++ C) (hp : Bits p) : Bits B := fun x hx => hp x (by rw [h]; simp [hx])
theorem reads9 {p : List Int} {t : WS} {H D X R : List Int} {e r : Bool} {i : Int} (K : DecAt p t H D X R e r i) (hp : p.length ≤ 4001) : ∃ n h, Reads9 p t.ext t.rtr t.id t.dlc t.data h n := by
  obtain ⟨eq, hd, dl, xl, bits, te, ti, tr, td, tx⟩ := K
  have hD : Bits D := fun x hx => bits x (by rw [eq]; simp [hx])
  have hX : Bits X := fun x hx => bits x (by rw [eq]; simp [hx])
  have hV := V_range hD
  have hn := dataB_range (r := r) hV.1
  obtain ⟨n, hN⟩ : ∃ n : Nat, dataB r (V D) = n := ⟨(dataB r (V D)).toNat, by omega⟩
  have hl := hd_len hd
  have hpl : p.length = H.length + D.length + X.length + R.length := by rw [eq]; simp only [List.length_append]
  have hXn : X.length = 8 * n := by omega
  refine ⟨n, H.length + 4, ?_⟩
  rw [te, ti, tr, td, tx]
  have hHl : H.length = 15 ∨ H.length = 35 := by rw [hl]; split <;> simp
  refine { lay := ?_, hh := ?_, len := by omega, lim := by omega, nn := by omega, vd := ?_, d0 := ?_, vi := ?_, v1 := ?_, ve := ?_, i0 := ?_, rb := ?_, rx := ?_, v8 := ?_, dl := ?_ }
  · have := lay_full (R := X ++ R) hd dl hD (by simp; omega)
    rw [← List.append_assoc, ← eq, hN] at this
    exact_mod_cast this
  · rw [hl]; split <;> rfl
  · have hm : (p.take (H.length + 4)).drop (H.length + 4 - 4) = D := mid_of (A := H) (C := X ++ R) (by rw [eq, List.append_assoc]) (by omega) (by omega)
    rw [hm]
    exact val_ev D hD (by omega)
  · have := V_lt hD (n := 4) (by omega) (m := 16) (by decide)
    exact ⟨hV.1, this⟩
  · cases hd with
    | base a r' z I hI =>
      have e1 : p = [a] ++ I ++ ([r', 48, z] ++ D ++ X ++ R) := by rw [eq]; simp
      have hm : (p.take 12).drop 1 = I := mid_of e1 rfl (by simp [hI])
      rw [hm]
      exact val_ev I (bits_part e1 bits) (by omega)
    | ext a r' q z y I J hI hJ =>
      have e1 : p = [a] ++ I ++ ([r', 49] ++ J ++ [q, z, y] ++ D ++ X ++ R) := by rw [eq]; simp
      have hm : (p.take 12).drop 1 = I := mid_of e1 rfl (by simp [hI])
      rw [hm]
      exact val_ev I (bits_part e1 bits) (by omega)
  · have hb : Bits ((p.take 12).drop 1) := fun x hx => bits x (List.mem_of_mem_take (List.mem_of_mem_drop hx))
    exact ⟨(V_range hb).1, V_lt hb (n := 11) (by simp; omega) (by decide)⟩
  · intro he
    cases hd with
    | base => cases he
    | ext a r' q z y I J hI hJ =>
      have e1 : p = [a] ++ I ++ ([r', 49] ++ J ++ [q, z, y] ++ D ++ X ++ R) := by rw [eq]; simp
      have hm : (p.take 12).drop 1 = I := mid_of e1 rfl (by simp [hI])
      have e2 : p = ([a] ++ I ++ [r', 49]) ++ J ++ ([q, z, y] ++ D ++ X ++ R) := by rw [eq]; simp
      have hm2 : (p.take 32).drop 14 = J := mid_of e2 (by simp [hI]) (by simp [hI, hJ])
      rw [hm, hm2]
      exact val_ev (I ++ J) (fun x hx => (List.mem_append.1 hx).elim (bits_part e1 bits x) (bits_part e2 bits x)) (by simp; omega)
  · cases hd with
    | base a r' z I hI =>
      have e1 : p = [a] ++ I ++ ([r', 48, z] ++ D ++ X ++ R) := by rw [eq]; simp
      exact ⟨(V_range (bits_part e1 bits)).1, V_lt (bits_part e1 bits) (n := 32) (by omega) (by decide)⟩
    | ext a r' q z y I J hI hJ =>
      have e1 : p = [a] ++ I ++ ([r', 49] ++ J ++ [q, z, y] ++ D ++ X ++ R) := by rw [eq]; simp
      have e2 : p = ([a] ++ I ++ [r', 49]) ++ J ++ ([q, z, y] ++ D ++ X ++ R) := by rw [eq]; simp
      have hb : Bits (I ++ J) := fun x hx => (List.mem_append.1 hx).elim (bits_part e1 bits x) (bits_part e2 bits x)
      exact ⟨(V_range hb).1, V_lt hb (n := 32) (by simp; omega) (by decide)⟩
  · intro he
    cases hd with
    | ext => cases he
    | base a r' z I hI =>
      have e1 : p = ([a] ++ I) ++ r' :: ([48, z] ++ D ++ X ++ R) := by rw [eq]; simp
      have := rd_app_at ([a] ++ I) ([48, z] ++ D ++ X ++ R) r'
      rw [← e1, show ((([a] ++ I).length : Nat) : Int) = 12 by simp [hI]] at this
      rw [this]
  · intro he
    cases hd with
    | base => cases he
    | ext a r' q z y I J hI hJ =>
      have e1 : p = ([a] ++ I ++ [r', 49] ++ J) ++ q :: ([z, y] ++ D ++ X ++ R) := by rw [eq]; simp
      have := rd_app_at ([a] ++ I ++ [r', 49] ++ J) ([z, y] ++ D ++ X ++ R) q
      rw [← e1, show ((([a] ++ I ++ [r', 49] ++ J).length : Nat) : Int) = 32 by simp [hI, hJ]] at this
      rw [this]
  · intro j hj
    -- the byte's bits
    have e1 : p = (H ++ D ++ X.take (8 * j)) ++ (X.take (8 * j + 8)).drop (8 * j) ++ (X.drop (8 * j + 8) ++ R) := by
      rw [eq]
      have : X = X.take (8 * j) ++ ((X.take (8 * j + 8)).drop (8 * j) ++ X.drop (8 * j + 8)) := by
        have h2 : X.take (8 * j) = (X.take (8 * j + 8)).take (8 * j) := by rw [List.take_take, Nat.min_eq_left (by omega)]
        rw [← List.append_assoc, h2, List.take_append_drop, List.take_append_drop]
      conv => lhs; rw [this]
      simp only [List.append_assoc]
    have hZl : ((X.take (8 * j + 8)).drop (8 * j)).length = 8 := by rw [List.length_drop, List.length_take]; omega
    have hm : (p.take (H.length + 4 + 8 * j + 8)).drop (H.length + 4 + 8 * j) = (X.take (8 * j + 8)).drop (8 * j) := mid_of e1 (by simp; omega) (by rw [hZl]; simp; omega)
    have hZb := bits_part e1 bits
    refine ⟨V ((X.take (8 * j + 8)).drop (8 * j)), by rw [hm]; exact val_ev _ hZb (by omega), ?_, (V_range hZb).1, V_lt hZb (n := 8) (by omega) (by decide)⟩
    -- the bytes
    have split : ∀ m, m ≤ n → (bytesB X).take m = bytesB (X.take (8 * m)) := by
      intro m hm
      have hY : ((X.take (8 * m)).length) % 8 = 0 := by rw [List.length_take]; omega
      have : ∀ (k : Nat) (Y Z : List Int), Y.length % 8 = 0 → Z.length = 8 * k → ∃ W, bytesB (Y ++ Z) = bytesB Y ++ W := by
        intro k
        induction k with
        | zero => intro Y Z _ hz; obtain rfl : Z = [] := List.eq_nil_of_length_eq_zero (by omega); exact ⟨[], by simp⟩
        | succ k ih =>
          intro Y Z hy hz
          have hz2 : Z = Z.take 8 ++ Z.drop 8 := (List.take_append_drop _ _).symm
          obtain ⟨W, hW⟩ := ih (Y ++ Z.take 8) (Z.drop 8) (by rw [List.length_append, List.length_take]; omega) (by rw [List.length_drop]; omega)
          rw [hz2, ← List.append_assoc, hW, bytesB_part Y hy (Z.take 8) (by rw [List.length_take]; omega) (by rw [List.length_take]; omega)]
          exact ⟨_, List.append_assoc _ _ _⟩
      obtain ⟨W, hW⟩ := this (n - m) (X.take (8 * m)) (X.drop (8 * m)) hY (by rw [List.length_drop]; omega)
      rw [List.take_append_drop] at hW
      rw [hW, List.take_left']
      rw [bytesB_length, List.length_take]; omega
    rw [split j (by omega), split (j + 1) (by omega)]
    have h3 : X.take (8 * (j + 1)) = X.take (8 * j) ++ (X.take (8 * j + 8)).drop (8 * j) := by
      have h2 : X.take (8 * j) = (X.take (8 * j + 8)).take (8 * j) := by rw [List.take_take, Nat.min_eq_left (by omega)]
      rw [h2, List.take_append_drop]; rfl
    rw [h3, bytesB_part _ (by rw [List.length_take]; omega) _ (by omega) (by omega)]
  · rw [bytesB_length]; omega
end Go.Proofs.Ytdoclpgciadjaaa.P

namespace Go.Proofs.Ytdoclpgciadjaaa.P
open Go Go.RowKit Go.Proofs.YtdoclpgciadjaaaW.PrintWords
set_option linter.unusedVariables false
theorem tch_setCells (W : World) (g : Nat) : ∀ (vs : List Value) (o : Nat), Tch W (W.setCells g o vs) (fun k => k = g) := by
  intro vs
  induction vs generalizing W with
  | nil => intro o; exact Tch.refl _ _
  | cons v vs ih => intro o; exact ((Tch.refl1 W g).one o v).trans (ih (W.setCell ⟨g, o, none⟩ v) (o + 1))
theorem setCells_obj {g : Nat} {T : TypeId} : ∀ (vs : List Value) (o : Nat) (W : World) (cs : Array Value), W.heap[g]? = some (.cells cs T (0, 0)) → o + vs.length ≤ cs.size →
    (W.setCells g o vs).heap[g]? = some (.cells (cs.toList.take o ++ vs ++ cs.toList.drop (o + vs.length)).toArray T (0, 0)) := by
  intro vs
  induction vs with
  | nil =>
    intro o W cs h ho
    show W.heap[g]? = _
    rw [h, List.append_nil, List.length_nil, Nat.add_zero, List.take_append_drop]
  | cons v vs ih =>
    intro o W cs h ho
    rw [List.length_cons] at ho
    show ((W.setCell ⟨g, o, none⟩ v).setCells g (o + 1) vs).heap[g]? = _
    rw [ih (o + 1) _ _ (blk_set h o v) (by rw [Array.size_setIfInBounds]; omega)]
    congr 3
    apply List.ext_getElem?
    intro i
    have hl : cs.toList.length = cs.size := Array.length_toList
    simp only [Array.toList_setIfInBounds, List.getElem?_append, List.length_append, List.length_take, List.length_set, hl, List.length_cons, List.getElem?_take, List.getElem?_drop, List.getElem?_set, List.getElem?_cons]
    by_cases c1 : i < o
    · rw [if_pos (by omega), if_pos (by omega), if_pos (by omega), if_neg (by omega), if_pos (by omega), if_pos (by omega), if_pos (by omega)]
    · by_cases c2 : i = o
      · subst c2
        rw [if_pos (by omega), if_pos (by omega), if_pos (by omega), if_pos rfl, if_pos (by omega), if_pos (by omega), if_neg (by omega), if_pos (by omega)]
      · by_cases c3 : i < o + 1 + vs.length
        · rw [if_pos (by omega), if_neg (by omega), if_pos (by omega), if_neg (by omega), if_neg (by omega)]
          congr 1; omega
        · rw [if_neg (by omega), if_neg (by omega), if_neg (by omega)]
          congr 1; omega
section
variable {P : Program} {ops : Array Oper} {rest : List Oper} {o : Oper} {a : Act} {Q : Exit → Act → World → Prop}
theorem store_box {W : World} (hgd : o.guard = none) {t : TypeId} {p : Tmp} {v : Operand} (ho : o.op = .store t (.tmp p) v) (hN : o.dst = none) {g j : Nat} {cs cs' : Array Value} {T : TypeId} {u : Value} {seg : List Value}
    (hp : a.eval (.tmp p) = .pointer (some ⟨g, j, none⟩)) (hv : a.eval v = u) (hb : W.heap[g]? = some (.cells cs T (0, 0))) (hu : u.cells.toList = seg) (ht : (P.info? t).map (·.size) = some seg.length) (h1 : seg.all (·.oneCell') = true) (hj' : Nat.ble (j + seg.length) cs.size = true)
    (hcs : (cs.toList.take j ++ seg ++ cs.toList.drop (j + seg.length)).toArray = cs') (h : ∀ w', w'.heap[g]? = some (.cells cs' T (0, 0)) → Tch W w' (fun k => k = g) → wpList P ops Q rest a w') : wpList P ops Q (o :: rest) a W := by
  have hj : j + seg.length ≤ cs.size := Nat.le_of_ble_eq_true hj'
  have hrun := run_store_run (P := P) (o := j) t u seg hb hu ht hj (List.all_eq_true.1 h1)
  refine wpList_plain hgd fun K hK => ?_
  unfold Oper.wp execOp
  simp only [ho, hp, hv, Sem.run_bind, Sem.run_pure, Result.andThen_ok, hrun]
  show K (a.put o.dst undef) _
  rw [hN]
  refine hK a _ (h _ ?_ (tch_setCells _ _ _ _))
  rw [setCells_obj seg j W cs hb hj, hcs]
theorem load_box {W : World} (hgd : o.guard = none) {t : TypeId} {p : Tmp} (ho : o.op = .load t (.tmp p)) {g j : Nat} {cs : Array Value} {T : TypeId} {seg : Array Value} {fs : Array Field}
    (hp : a.eval (.tmp p) = .pointer (some ⟨g, j, none⟩)) (hb : W.heap[g]? = some (.cells cs T (0, 0))) (hu : P.underlying t = some (.struct fs)) (ht : (P.info? t).map (·.size) = some seg.size) (hs : (cs.toList.drop j).take seg.size = seg.toList)
    (h : wpList P ops Q rest (a.put o.dst (.agg seg)) W) : wpList P ops Q (o :: rest) a W := by
  refine wpList_load_mid hgd t (.tmp p) ho g j hp seg.toList (.struct fs) (fun i v hi => ?_) hu rfl (by rw [Array.length_toList]; exact ht) ?_
  · rw [blk_cell hb, ← hs] at *
    rw [List.getElem?_take, List.getElem?_drop] at hi
    split at hi
    · rw [Array.getElem?_toList] at hi; exact hi
    · cases hi
  · rw [Array.toArray_toList]; exact h
theorem load_cell {W : World} (hgd : o.guard = none) {t : TypeId} {p : Tmp} (ho : o.op = .load t (.tmp p)) {g j : Nat} {cs : Array Value} {T : TypeId} {v : Value} {d : TypeDesc}
    (hp : a.eval (.tmp p) = .pointer (some ⟨g, j, none⟩)) (hb : W.heap[g]? = some (.cells cs T (0, 0))) (hv : cs[j]? = some v) (hu : P.underlying t = some d) (hd : d.isRow = false)
    (h : wpList P ops Q rest (a.put o.dst v) W) : wpList P ops Q (o :: rest) a W := by
  have hag : (isAgg t).run P W = .ok false W := by
    unfold isAgg
    rw [Sem.run_bind, run_underlying hu W]
    cases d <;> simp_all [TypeDesc.isRow]
  have hc : W.cell? ⟨g, j, none⟩ = some v := (blk_cell hb j).trans hv
  have hl : (loadVar t ⟨g, j, none⟩).run P W = .ok v W := by
    unfold loadVar
    rw [Sem.run_bind, hag]
    simp [hc]
  refine wpList_plain hgd fun K hK => ?_
  unfold Oper.wp execOp
  simp only [ho, hp, Instr.loadAt, Instr.sureAddr, Sem.run_bind, Sem.run_pure, Result.andThen_ok, hl]
  exact hK _ _ h
end
theorem Tch.blk {w w' : World} {S : Nat → Prop} {k : Nat} {o : Obj} (h : Tch w w' S) (hk : w.heap[k]? = some o) (hn : ¬ S k) : w'.heap[k]? = some o := blk_kept hk h.kept hn
theorem R_lit0 {e : Nat} {w : World} {base g : Nat} {ok : Nat → Prop} {k : IntKind} {xs : List Int} (h : w.heap[g]? = some (.cells #[] e (0, 0))) (hg : base ≤ g ∧ ok g) : Kd.R (Kd.int k) e w base ok (.slice (some ⟨g, 0, none⟩) 0 0) (xs.take 0) := by
  rw [List.take_zero]
  refine ⟨fun k hk => ?_, [], ?_, Reps.none _ _⟩
  · have : g = k := by simpa [Value.ownBlock] using hk
    subst this; exact hg.2
  · exact ⟨rfl, .inr ⟨g, 0, #[], rfl, hg.1, h, Nat.le_refl _, by simp [maxLen], rfl, rfl⟩⟩
section
variable {α : Type} {d : Kd α} {e base g T : Nat} {w w' : World} {ok : Nat → Prop} {v : Value} {xs : List α} {cells : Array Value}
theorem R_tch (h : d.R e w base ok v xs) (hb : w.heap[g]? = some (.cells cells T (0, 0))) (ht : ∀ q, q ∈ e :: d.E → q ≠ T) (hT : Tch w w' (fun k => k = g)) : d.R e w' base ok v xs :=
  Kd.R_mono (Kd.R_kept (Kd.R_types h hb ht) hT.kept (fun _ hk => hk.2)) (fun _ hk => hk.1)
end
theorem load_at {P : Program} {ops : Array Oper} {rest : List Oper} {o : Oper} {a : Act} {Q : Exit → Act → World → Prop} {W : World} (hgd : o.guard = none) {t : TypeId} {p : Tmp} (ho : o.op = .load t (.tmp p)) {x : Addr} {v : Value} {d : TypeDesc}
    (hp : a.eval (.tmp p) = .pointer (some x)) (hc : W.cell? x = some v) (hu : P.underlying t = some d) (hd : d.isRow = false)
    (h : wpList P ops Q rest (a.put o.dst v) W) : wpList P ops Q (o :: rest) a W := by
  have hag : (isAgg t).run P W = .ok false W := by
    unfold isAgg
    rw [Sem.run_bind, run_underlying hu W]
    cases d <;> simp_all [TypeDesc.isRow]
  have hl : (loadVar t x).run P W = .ok v W := by
    unfold loadVar
    rw [Sem.run_bind, hag]
    simp [hc]
  refine wpList_plain hgd fun K hK => ?_
  unfold Oper.wp execOp
  simp only [ho, hp, Instr.loadAt, Instr.sureAddr, Sem.run_bind, Sem.run_pure, Result.andThen_ok, hl]
  exact hK _ _ h
theorem lit_event {P : Program} {ops : Array Oper} {rest : List Oper} {o : Oper} {a : Act} {Q : Exit → Act → World → Prop} {W : World} (hgd : o.guard = none) {cs : Array Value} {T : TypeId} {n : Nat}
    (hrun : (execOp a.eval o).run P W = .ok (.value (.slice (some ⟨W.heap.size, 0, none⟩) n n)) (W.alloc (.cells cs T (0, 0))))
    (h : ∀ g, g = W.heap.size → ∀ w1, (w1.heap[g]? = some (.cells cs T (0, 0)) ∧ Below W.heap.size W w1) → wpList P ops Q rest (a.put o.dst (.slice (some ⟨g, 0, none⟩) n n)) w1) : wpList P ops Q (o :: rest) a W :=
  Kd.event_run hgd hrun (h _ rfl _ ⟨blk_new W _, below_alloc (Below.refl _ _) _⟩)
end Go.Proofs.Ytdoclpgciadjaaa.P
