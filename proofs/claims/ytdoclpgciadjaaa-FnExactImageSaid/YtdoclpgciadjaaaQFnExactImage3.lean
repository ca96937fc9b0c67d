import Derived.Test.YtdoclpgciadjaaaQFnExactImage0
import Derived.Test.YtdoclpgciadjaaaQFnExactImage2
import Derived.Test.YtdoclpgciadjaaaQFnExactImage1

namespace Go.Proofs.Ytdoclpgciadjaaa.P
open Go.RowKit Go.Proofs.YtdoclpgciadjaaaW.PrintWords Go.Proofs.YtdoclpgciadjaaaW.PrintLast Go.Proofs.YtdoclpgciadjaaaW.PrintMore
attribute [local go_sem] max2_int min2_int max_two min_two max_three min_three max_four min_four
set_option linter.unusedVariables false
set_option linter.unusedSimpArgs false

/-! ### spec_Image: function 32 -/
def spec_Image.f (k : Nat) (a0_0 : Bool) (a0_1 : Int) (a0_2 : Bool) (a0_3 : Int) (l0_4 : List Int) : Option (Int × List Int) := (spec_ValidFrame.f k a0_0 a0_1 a0_2 a0_3 l0_4).bind fun t158 => (if t158 = true then ((spec_Encode.f k a0_0 a0_1 a0_2 a0_3 l0_4).bind fun t159 => ((spec_Pack.f k t159).bind fun bt160 => (some (bt160.1, bt160.2)))) else (some (0, ([] : List Int))))
theorem spec_Image.mono : ∀ a0 a1 a2 a3 a4 k, LeO (spec_Image.f k a0 a1 a2 a3 a4) (spec_Image.f (k + 1) a0 a1 a2 a3 a4) := by
  intro a0 a1 a2 a3 a4 k
  unfold spec_Image.f
  repeat' first
      | (with_reducible exact spec_Encode.mono _ _ _ _ _ _)
      | (with_reducible exact spec_Pack.mono _ _)
      | (with_reducible exact spec_ValidFrame.mono _ _ _ _ _ _)
      | (with_reducible exact LeO.refl _)
      | (with_reducible exact LeO.none _)
      | (with_reducible refine LeO.ite ?_ ?_)
      | (with_reducible refine LeO.bind ?_ (fun _ => ?_))
      | exact spec_Encode.mono _ _ _ _ _ _
      | exact spec_Pack.mono _ _
      | exact spec_ValidFrame.mono _ _ _ _ _ _
      | exact LeO.none _
      | refine LeO.ite ?_ ?_
      | refine LeO.bind ?_ (fun _ => ?_)
set_option maxHeartbeats 8000000 in
set_option maxRecDepth 100000 in
theorem spec_Image.calls (k : Nat) (a0_0 : Bool) (a0_1 : Int) (a0_2 : Bool) (a0_3 : Int) (A0_4 : Option Addr) (c0_4 : Nat) (l0_4 : List Int) (r1 : Int) (r2 : List Int) (w : World) (hr0_4 : Kd.C (Kd.int .u8) w A0_4 l0_4.length l0_4) (hc0_4 : l0_4.length ≤ c0_4) (h : spec_Image.f k a0_0 a0_1 a0_2 a0_3 l0_4 = some (r1, r2)) :
    Calls Try.prog 32 #[.agg #[.bool a0_0, .int .u32 a0_1, .bool a0_2, .int .i64 a0_3, .slice A0_4 l0_4.length c0_4]] w fun e w' => ∃ v1_ : Value, e = .returned (.agg #[.int .i64 r1, v1_]) ∧ Kd.R (Kd.int .u64) 170 w' w.heap.size (fun _ => True) v1_ r2 ∧ Below w.heap.size w w' := by
  have hu25 := Try.underlying25
  have hu50 := Try.underlying50
  have HR0_4 := Aside0.mk hr0_4
  have HC0_4 := Aside0.mk hc0_4
  clear hr0_4 hc0_4
  have HB := Aside0.mk (Below.refl w.heap.size w)
  have H : ((spec_ValidFrame.f k a0_0 a0_1 a0_2 a0_3 l0_4).bind fun t158 => (if t158 = true then ((spec_Encode.f k a0_0 a0_1 a0_2 a0_3 l0_4).bind fun t159 => ((spec_Pack.f k t159).bind fun bt160 => (some (bt160.1, bt160.2)))) else (some (0, ([] : List Int))))) = some (r1, r2) := h
  clear h
  replace H := Option.bind_eq_some_iff.mp H
  obtain ⟨t158, A20, H⟩ := H
  replace H : (if t158 = true then ((spec_Encode.f k a0_0 a0_1 a0_2 a0_3 l0_4).bind fun t159 => ((spec_Pack.f k t159).bind fun bt160 => (some (bt160.1, bt160.2)))) else (some (0, ([] : List Int)))) = some (r1, r2) := H
  have A2 := Aside0.mk A20
  clear A20
  by_cases c3 : t158 = true
  · subst c3
    have H1 : ((spec_Encode.f k a0_0 a0_1 a0_2 a0_3 l0_4).bind fun t159 => ((spec_Pack.f k t159).bind fun bt160 => (some (bt160.1, bt160.2)))) = some (r1, r2) := by rw [if_pos rfl] at H; exact H
    clear H
    have H := H1
    clear H1
    replace H := Option.bind_eq_some_iff.mp H
    obtain ⟨t159, A40, H⟩ := H
    replace H : ((spec_Pack.f k t159).bind fun bt160 => (some (bt160.1, bt160.2))) = some (r1, r2) := H
    have A4 := Aside0.mk A40
    clear A40
    replace H := Option.bind_eq_some_iff.mp H
    obtain ⟨⟨t160, t161⟩, A50, H⟩ := H
    replace H : (some (t160, t161)) = some (r1, r2) := H
    have A5 := Aside0.mk A50
    clear A50
    simp only [Option.some.injEq, Prod.mk.injEq] at H
    obtain ⟨rfl, rfl⟩ := H
    go_enter Try.func32, Try.ntmps32
    go_wp2_with (first | ((with_reducible refine gate_dst (N := 1) rfl ?_); refine box_event ?hg (N := 1) ?hd (cs := #[.bool a0_0, .int .u32 a0_1, .bool a0_2, .int .i64 a0_3, .slice A0_4 l0_4.length c0_4]) (t := 25) ?hr ?_; (case hd => rfl); (case hg => rfl); (case hr => first | (go_simp; done) | (go_simp; rfl)); intro gb156 hg w6 hbox hb; have n0_ := Aside0.mk (below_step (by repeat (first | (with_reducible first | exact HB.out | apply below_alloc | apply pw_below_drewN | apply below_drew1) | exact HB.out)) hb); have n1_ := Aside0.mk (hbox); have n2_ := Aside0.mk ((by rw [hg]; exact (below_size (by repeat (first | (with_reducible first | exact HB.out | apply below_alloc | apply pw_below_drewN | apply below_drew1) | exact HB.out))) : w.heap.size ≤ gb156)); have n3_ := Aside0.mk ((by rw [hg]; exact (below_size (by repeat (first | (with_reducible first | exact HB.out | apply below_alloc | apply pw_below_drewN | apply below_drew1) | exact HB.out))) : w.heap.size ≤ gb156)); clear HB; have HB := n0_; have BK156 := n1_; have GW156 := n2_; have GE156 := n3_; clear n0_ n1_ n2_ n3_; clear hb hbox hg) | ((with_reducible refine gate_dst (N := 2) rfl ?_); refine box_event ?hg (N := 2) ?hd (cs := #[.int .i64 0, .slice none 0 0]) (t := 50) ?hr ?_; (case hd => rfl); (case hg => rfl); (case hr => first | (go_simp; done) | (go_simp; rfl)); intro gb157 hg w7 hbox hb; have n0_ := Aside0.mk (blk_below (g := gb156) (o := .cells #[.bool a0_0, .int .u32 a0_1, .bool a0_2, .int .i64 a0_3, .slice A0_4 l0_4.length c0_4] 25 (0, 0)) (by (with_reducible repeat (first | refine blk_drewN ?_ _ | refine blk_drew ?_ | refine blk_alloc ?_ _)); exact BK156.out) hb); have n1_ := Aside0.mk (below_step (by repeat (first | (with_reducible first | exact HB.out | apply below_alloc | apply pw_below_drewN | apply below_drew1 | refine below_set ?_ GE156.out) | exact HB.out)) hb); have n2_ := Aside0.mk (hbox); have n3_ := Aside0.mk ((by rw [hg]; exact (below_size (by repeat (first | (with_reducible first | exact HB.out | apply below_alloc | apply pw_below_drewN | apply below_drew1 | refine below_set ?_ GE156.out) | exact HB.out))) : w.heap.size ≤ gb157)); have n4_ := Aside0.mk ((by rw [hg]; exact (below_size (by repeat (first | (with_reducible first | exact HB.out | apply below_alloc | apply pw_below_drewN | apply below_drew1 | refine below_set ?_ GE156.out) | exact HB.out))) : w.heap.size ≤ gb157)); have n5_ := Aside0.mk ((by rw [hg]; exact Nat.ne_of_lt (blk_lt (g := gb156) (o := .cells #[.bool a0_0, .int .u32 a0_1, .bool a0_2, .int .i64 a0_3, .slice A0_4 l0_4.length c0_4] 25 (0, 0)) (by (with_reducible repeat (first | refine blk_drewN ?_ _ | refine blk_drew ?_ | refine blk_alloc ?_ _)); exact BK156.out)) : gb156 ≠ gb157)); have n6_ := Aside0.mk ((by rw [hg]; exact Nat.ne_of_gt (blk_lt (g := gb156) (o := .cells #[.bool a0_0, .int .u32 a0_1, .bool a0_2, .int .i64 a0_3, .slice A0_4 l0_4.length c0_4] 25 (0, 0)) (by (with_reducible repeat (first | refine blk_drewN ?_ _ | refine blk_drew ?_ | refine blk_alloc ?_ _)); exact BK156.out)) : gb157 ≠ gb156)); clear BK156; clear HB; have BK156 := n0_; have HB := n1_; have BK157 := n2_; have GW157 := n3_; have GE157 := n4_; have NB156_157 := n5_; have NB157_156 := n6_; clear n0_ n1_ n2_ n3_ n4_ n5_ n6_; clear hb hbox hg; have hnb8 := NB156_157.out; have hnc8 := NB157_156.out; have hcz9_0 : w7.cell? ⟨gb156, 0, none⟩ = some (.bool a0_0) := (blk_cell BK156.out 0).trans rfl; have hcz9_1 : w7.cell? ⟨gb156, 1, none⟩ = some (.int .u32 a0_1) := (blk_cell BK156.out 1).trans rfl; have hcz9_2 : w7.cell? ⟨gb156, 2, none⟩ = some (.bool a0_2) := (blk_cell BK156.out 2).trans rfl; have hcz9_3 : w7.cell? ⟨gb156, 3, none⟩ = some (.int .i64 a0_3) := (blk_cell BK156.out 3).trans rfl; have hcz9_4 : w7.cell? ⟨gb156, 4, none⟩ = some (.slice A0_4 l0_4.length c0_4) := (blk_cell BK156.out 4).trans rfl; have hfz9_0 := blk_frozen BK156.out 0; have hfz9_1 := blk_frozen BK156.out 1; have hfz9_2 := blk_frozen BK156.out 2; have hfz9_3 := blk_frozen BK156.out 3; have hfz9_4 := blk_frozen BK156.out 4) | ((with_reducible refine gate_callee (f := 14) rfl ?_); refine goesL_ (some 4) rfl rfl Try.func14 (by kernel_rfl) rfl #[.agg #[.bool a0_0, .int .u32 a0_1, .bool a0_2, .int .i64 a0_3, .slice A0_4 l0_4.length c0_4]] rfl (by (try simp only [List.map_toArray, List.map_cons, List.map_nil]); first | done | rfl | (simp only [List.length_drop, List.length_take]; rfl)) ?_; (with_reducible refine (spec_ValidFrame.calls k a0_0 a0_1 a0_2 a0_3 _ _ l0_4 true _ ?side1 ?side2 A2.out).mono ?_); (case side1 => repeat (first | exact (Kd.C_below HR0_4.out HB.out) | (with_reducible refine Kd.C_alloc ?_ _) | (with_reducible refine Kd.C_drewN ?_ _) | (with_reducible refine Kd.C_drew ?_))); (case side2 => exact HC0_4.out); rintro e w10 ⟨rfl, hb⟩; refine ⟨_, rfl, ?_⟩; have n0_ := Aside0.mk (blk_below (g := gb156) (o := .cells #[.bool a0_0, .int .u32 a0_1, .bool a0_2, .int .i64 a0_3, .slice A0_4 l0_4.length c0_4] 25 (0, 0)) (by (with_reducible repeat (first | refine blk_drewN ?_ _ | refine blk_drew ?_ | refine blk_alloc ?_ _)); exact BK156.out) hb); have n1_ := Aside0.mk (blk_below (g := gb157) (o := .cells #[.int .i64 0, .slice none 0 0] 50 (0, 0)) (by (with_reducible repeat (first | refine blk_drewN ?_ _ | refine blk_drew ?_ | refine blk_alloc ?_ _)); exact BK157.out) hb); have n2_ := Aside0.mk (below_step (by repeat (first | (with_reducible first | exact HB.out | apply below_alloc | apply pw_below_drewN | apply below_drew1 | refine below_set ?_ GE156.out | refine below_set ?_ GE157.out) | exact HB.out)) hb); clear BK156; clear BK157; clear HB; have BK156 := n0_; have BK157 := n1_; have HB := n2_; clear n0_ n1_ n2_; (try clear hb); (try clear hb2); (try clear hk); (try clear hi); have hcz11_0 : w10.cell? ⟨gb156, 0, none⟩ = some (.bool a0_0) := (blk_cell BK156.out 0).trans rfl; have hcz11_1 : w10.cell? ⟨gb156, 1, none⟩ = some (.int .u32 a0_1) := (blk_cell BK156.out 1).trans rfl; have hcz11_2 : w10.cell? ⟨gb156, 2, none⟩ = some (.bool a0_2) := (blk_cell BK156.out 2).trans rfl; have hcz11_3 : w10.cell? ⟨gb156, 3, none⟩ = some (.int .i64 a0_3) := (blk_cell BK156.out 3).trans rfl; have hcz11_4 : w10.cell? ⟨gb156, 4, none⟩ = some (.slice A0_4 l0_4.length c0_4) := (blk_cell BK156.out 4).trans rfl; have hfz11_0 := blk_frozen BK156.out 0; have hfz11_1 := blk_frozen BK156.out 1; have hfz11_2 := blk_frozen BK156.out 2; have hfz11_3 := blk_frozen BK156.out 3; have hfz11_4 := blk_frozen BK156.out 4) | ((with_reducible refine gate_callee (f := 48) rfl ?_); refine goesL_ (some 8) rfl rfl Try.func48 (by kernel_rfl) rfl #[.agg #[.bool a0_0, .int .u32 a0_1, .bool a0_2, .int .i64 a0_3, .slice A0_4 l0_4.length c0_4]] rfl (by (try simp only [List.map_toArray, List.map_cons, List.map_nil]); first | done | rfl | (simp only [List.length_drop, List.length_take]; rfl)) ?_; (with_reducible refine (spec_Encode.calls k a0_0 a0_1 a0_2 a0_3 _ _ l0_4 t159 _ ?side1 ?side2 A4.out).mono ?_); (case side1 => repeat (first | exact (Kd.C_below HR0_4.out HB.out) | (with_reducible refine Kd.C_alloc ?_ _) | (with_reducible refine Kd.C_drewN ?_ _) | (with_reducible refine Kd.C_drew ?_))); (case side2 => exact HC0_4.out); rintro e w12 ⟨rfl, hb⟩; refine ⟨_, rfl, ?_⟩; have n0_ := Aside0.mk (blk_below (g := gb156) (o := .cells #[.bool a0_0, .int .u32 a0_1, .bool a0_2, .int .i64 a0_3, .slice A0_4 l0_4.length c0_4] 25 (0, 0)) (by (with_reducible repeat (first | refine blk_drewN ?_ _ | refine blk_drew ?_ | refine blk_alloc ?_ _)); exact BK156.out) hb); have n1_ := Aside0.mk (blk_below (g := gb157) (o := .cells #[.int .i64 0, .slice none 0 0] 50 (0, 0)) (by (with_reducible repeat (first | refine blk_drewN ?_ _ | refine blk_drew ?_ | refine blk_alloc ?_ _)); exact BK157.out) hb); have n2_ := Aside0.mk (below_step (by repeat (first | (with_reducible first | exact HB.out | apply below_alloc | apply pw_below_drewN | apply below_drew1 | refine below_set ?_ GE156.out | refine below_set ?_ GE157.out) | exact HB.out)) hb); clear BK156; clear BK157; clear HB; have BK156 := n0_; have BK157 := n1_; have HB := n2_; clear n0_ n1_ n2_; (try clear hb); (try clear hb2); (try clear hk); (try clear hi)) | ((with_reducible refine gate_callee (f := 90) rfl ?_); refine goesL_ (some 9) rfl rfl Try.func90 (by kernel_rfl) rfl #[.string t159] rfl (by (try simp only [List.map_toArray, List.map_cons, List.map_nil]); first | done | rfl | (simp only [List.length_drop, List.length_take]; rfl)) ?_; (with_reducible refine (spec_Pack.calls k t159 t160 t161 _ A5.out).mono ?_); rintro e w13 ⟨v162, rfl, ho0, hb⟩; refine ⟨_, rfl, ?_⟩; have n0_ := Aside0.mk (Kd.R_lower ho0 (below_size (by repeat (first | (with_reducible first | exact HB.out | apply below_alloc | apply pw_below_drewN | apply below_drew1 | refine below_set ?_ GE156.out | refine below_set ?_ GE157.out) | exact HB.out)))); have n1_ := Aside0.mk (blk_below (g := gb156) (o := .cells #[.bool a0_0, .int .u32 a0_1, .bool a0_2, .int .i64 a0_3, .slice A0_4 l0_4.length c0_4] 25 (0, 0)) (by (with_reducible repeat (first | refine blk_drewN ?_ _ | refine blk_drew ?_ | refine blk_alloc ?_ _)); exact BK156.out) hb); have n2_ := Aside0.mk (blk_below (g := gb157) (o := .cells #[.int .i64 0, .slice none 0 0] 50 (0, 0)) (by (with_reducible repeat (first | refine blk_drewN ?_ _ | refine blk_drew ?_ | refine blk_alloc ?_ _)); exact BK157.out) hb); have n3_ := Aside0.mk (below_step (by repeat (first | (with_reducible first | exact HB.out | apply below_alloc | apply pw_below_drewN | apply below_drew1 | refine below_set ?_ GE156.out | refine below_set ?_ GE157.out) | exact HB.out)) hb); clear BK156; clear BK157; clear HB; have HO163 := n0_; have BK156 := n1_; have BK157 := n2_; have HB := n3_; clear n0_ n1_ n2_ n3_; (try clear hb); (try clear hb2); (try clear hk); (try clear hi); (try clear ho0); have hcz14_0 : w13.cell? ⟨gb157, 0, none⟩ = some (.int .i64 0) := (blk_cell BK157.out 0).trans rfl; have hcz14_1 : w13.cell? ⟨gb157, 1, none⟩ = some (.slice none 0 0) := (blk_cell BK157.out 1).trans rfl; have hfz14_0 := blk_frozen BK157.out 0; have hfz14_1 := blk_frozen BK157.out 1; obtain ⟨Ao15, co15, eo15⟩ := Kd.R_slice HO163.out; subst eo15))
    refine bodyPost_ret (results_cell_row rfl _ _ gb157 50 #[.int .i64 t160, .slice Ao15 t161.length co15] (0, 0) _ rfl (by (with_reducible repeat (first | refine blk_drewN ?_ _ | refine blk_drew ?_ | refine blk_alloc ?_ _)); refine blk_put (cs := #[.int .i64 t160, .slice none 0 0]) ?_ 1 _ rfl; (with_reducible repeat (first | refine blk_drewN ?_ _ | refine blk_drew ?_ | refine blk_alloc ?_ _)); refine blk_put (cs := #[.int .i64 0, .slice none 0 0]) ?_ 0 _ rfl; (with_reducible repeat (first | refine blk_drewN ?_ _ | refine blk_drew ?_ | refine blk_alloc ?_ _)); exact BK157.out) Try.underlying50 rfl (by kernel_rfl)) rfl ?_
    exact ⟨_, by first | rfl | (simp [errW_none, errW_some] <;> rfl) | (simp [*, errW_none, errW_some] <;> rfl), by (with_reducible repeat (first | apply Kd.R_alloc | apply Kd.R_drewN | apply Kd.R_drew)); exact Kd.R_mono (Kd.R_far (p := ⟨gb157, 1, none⟩) (Kd.R_far (p := ⟨gb157, 0, none⟩) (Kd.R_types HO163.out BK157.out (by decide)) (fun _ hk => hk.2) (.int .i64 t160)) (fun _ hk => hk.2) (.slice Ao15 t161.length co15)) (fun _ hk => trivial), by repeat (first | (with_reducible first | exact HB.out | apply below_alloc | apply pw_below_drewN | apply below_drew1 | refine below_set ?_ GE156.out | refine below_set ?_ GE157.out) | exact HB.out)⟩
  · replace c3 := Bool.eq_false_iff.mpr c3
    subst c3
    have H1 : (some (0, ([] : List Int))) = some (r1, r2) := by rw [if_neg (show ¬ (false = true) by decide)] at H; exact H
    clear H
    have H := H1
    clear H1
    simp only [Option.some.injEq, Prod.mk.injEq] at H
    obtain ⟨rfl, rfl⟩ := H
    go_enter Try.func32, Try.ntmps32
    go_wp2_with (first | ((with_reducible refine gate_dst (N := 1) rfl ?_); refine box_event ?hg (N := 1) ?hd (cs := #[.bool a0_0, .int .u32 a0_1, .bool a0_2, .int .i64 a0_3, .slice A0_4 l0_4.length c0_4]) (t := 25) ?hr ?_; (case hd => rfl); (case hg => rfl); (case hr => first | (go_simp; done) | (go_simp; rfl)); intro gb156 hg w16 hbox hb; have n0_ := Aside0.mk (below_step (by repeat (first | (with_reducible first | exact HB.out | apply below_alloc | apply pw_below_drewN | apply below_drew1) | exact HB.out)) hb); have n1_ := Aside0.mk (hbox); have n2_ := Aside0.mk ((by rw [hg]; exact (below_size (by repeat (first | (with_reducible first | exact HB.out | apply below_alloc | apply pw_below_drewN | apply below_drew1) | exact HB.out))) : w.heap.size ≤ gb156)); have n3_ := Aside0.mk ((by rw [hg]; exact (below_size (by repeat (first | (with_reducible first | exact HB.out | apply below_alloc | apply pw_below_drewN | apply below_drew1) | exact HB.out))) : w.heap.size ≤ gb156)); clear HB; have HB := n0_; have BK156 := n1_; have GW156 := n2_; have GE156 := n3_; clear n0_ n1_ n2_ n3_; clear hb hbox hg) | ((with_reducible refine gate_dst (N := 2) rfl ?_); refine box_event ?hg (N := 2) ?hd (cs := #[.int .i64 0, .slice none 0 0]) (t := 50) ?hr ?_; (case hd => rfl); (case hg => rfl); (case hr => first | (go_simp; done) | (go_simp; rfl)); intro gb157 hg w17 hbox hb; have n0_ := Aside0.mk (blk_below (g := gb156) (o := .cells #[.bool a0_0, .int .u32 a0_1, .bool a0_2, .int .i64 a0_3, .slice A0_4 l0_4.length c0_4] 25 (0, 0)) (by (with_reducible repeat (first | refine blk_drewN ?_ _ | refine blk_drew ?_ | refine blk_alloc ?_ _)); exact BK156.out) hb); have n1_ := Aside0.mk (below_step (by repeat (first | (with_reducible first | exact HB.out | apply below_alloc | apply pw_below_drewN | apply below_drew1 | refine below_set ?_ GE156.out) | exact HB.out)) hb); have n2_ := Aside0.mk (hbox); have n3_ := Aside0.mk ((by rw [hg]; exact (below_size (by repeat (first | (with_reducible first | exact HB.out | apply below_alloc | apply pw_below_drewN | apply below_drew1 | refine below_set ?_ GE156.out) | exact HB.out))) : w.heap.size ≤ gb157)); have n4_ := Aside0.mk ((by rw [hg]; exact (below_size (by repeat (first | (with_reducible first | exact HB.out | apply below_alloc | apply pw_below_drewN | apply below_drew1 | refine below_set ?_ GE156.out) | exact HB.out))) : w.heap.size ≤ gb157)); have n5_ := Aside0.mk ((by rw [hg]; exact Nat.ne_of_lt (blk_lt (g := gb156) (o := .cells #[.bool a0_0, .int .u32 a0_1, .bool a0_2, .int .i64 a0_3, .slice A0_4 l0_4.length c0_4] 25 (0, 0)) (by (with_reducible repeat (first | refine blk_drewN ?_ _ | refine blk_drew ?_ | refine blk_alloc ?_ _)); exact BK156.out)) : gb156 ≠ gb157)); have n6_ := Aside0.mk ((by rw [hg]; exact Nat.ne_of_gt (blk_lt (g := gb156) (o := .cells #[.bool a0_0, .int .u32 a0_1, .bool a0_2, .int .i64 a0_3, .slice A0_4 l0_4.length c0_4] 25 (0, 0)) (by (with_reducible repeat (first | refine blk_drewN ?_ _ | refine blk_drew ?_ | refine blk_alloc ?_ _)); exact BK156.out)) : gb157 ≠ gb156)); clear BK156; clear HB; have BK156 := n0_; have HB := n1_; have BK157 := n2_; have GW157 := n3_; have GE157 := n4_; have NB156_157 := n5_; have NB157_156 := n6_; clear n0_ n1_ n2_ n3_ n4_ n5_ n6_; clear hb hbox hg; have hnb18 := NB156_157.out; have hnc18 := NB157_156.out; have hcz19_0 : w17.cell? ⟨gb156, 0, none⟩ = some (.bool a0_0) := (blk_cell BK156.out 0).trans rfl; have hcz19_1 : w17.cell? ⟨gb156, 1, none⟩ = some (.int .u32 a0_1) := (blk_cell BK156.out 1).trans rfl; have hcz19_2 : w17.cell? ⟨gb156, 2, none⟩ = some (.bool a0_2) := (blk_cell BK156.out 2).trans rfl; have hcz19_3 : w17.cell? ⟨gb156, 3, none⟩ = some (.int .i64 a0_3) := (blk_cell BK156.out 3).trans rfl; have hcz19_4 : w17.cell? ⟨gb156, 4, none⟩ = some (.slice A0_4 l0_4.length c0_4) := (blk_cell BK156.out 4).trans rfl; have hfz19_0 := blk_frozen BK156.out 0; have hfz19_1 := blk_frozen BK156.out 1; have hfz19_2 := blk_frozen BK156.out 2; have hfz19_3 := blk_frozen BK156.out 3; have hfz19_4 := blk_frozen BK156.out 4) | ((with_reducible refine gate_callee (f := 14) rfl ?_); refine goesL_ (some 4) rfl rfl Try.func14 (by kernel_rfl) rfl #[.agg #[.bool a0_0, .int .u32 a0_1, .bool a0_2, .int .i64 a0_3, .slice A0_4 l0_4.length c0_4]] rfl (by (try simp only [List.map_toArray, List.map_cons, List.map_nil]); first | done | rfl | (simp only [List.length_drop, List.length_take]; rfl)) ?_; (with_reducible refine (spec_ValidFrame.calls k a0_0 a0_1 a0_2 a0_3 _ _ l0_4 false _ ?side1 ?side2 A2.out).mono ?_); (case side1 => repeat (first | exact (Kd.C_below HR0_4.out HB.out) | (with_reducible refine Kd.C_alloc ?_ _) | (with_reducible refine Kd.C_drewN ?_ _) | (with_reducible refine Kd.C_drew ?_))); (case side2 => exact HC0_4.out); rintro e w20 ⟨rfl, hb⟩; refine ⟨_, rfl, ?_⟩; have n0_ := Aside0.mk (blk_below (g := gb156) (o := .cells #[.bool a0_0, .int .u32 a0_1, .bool a0_2, .int .i64 a0_3, .slice A0_4 l0_4.length c0_4] 25 (0, 0)) (by (with_reducible repeat (first | refine blk_drewN ?_ _ | refine blk_drew ?_ | refine blk_alloc ?_ _)); exact BK156.out) hb); have n1_ := Aside0.mk (blk_below (g := gb157) (o := .cells #[.int .i64 0, .slice none 0 0] 50 (0, 0)) (by (with_reducible repeat (first | refine blk_drewN ?_ _ | refine blk_drew ?_ | refine blk_alloc ?_ _)); exact BK157.out) hb); have n2_ := Aside0.mk (below_step (by repeat (first | (with_reducible first | exact HB.out | apply below_alloc | apply pw_below_drewN | apply below_drew1 | refine below_set ?_ GE156.out | refine below_set ?_ GE157.out) | exact HB.out)) hb); clear BK156; clear BK157; clear HB; have BK156 := n0_; have BK157 := n1_; have HB := n2_; clear n0_ n1_ n2_; (try clear hb); (try clear hb2); (try clear hk); (try clear hi); have hcz21_0 : w20.cell? ⟨gb157, 0, none⟩ = some (.int .i64 0) := (blk_cell BK157.out 0).trans rfl; have hcz21_1 : w20.cell? ⟨gb157, 1, none⟩ = some (.slice none 0 0) := (blk_cell BK157.out 1).trans rfl; have hfz21_0 := blk_frozen BK157.out 0; have hfz21_1 := blk_frozen BK157.out 1))
    refine bodyPost_ret (results_cell_row rfl _ _ gb157 50 #[.int .i64 0, .slice none 0 0] (0, 0) _ rfl (by (with_reducible repeat (first | refine blk_drewN ?_ _ | refine blk_drew ?_ | refine blk_alloc ?_ _)); refine blk_put (cs := #[.int .i64 0, .slice none 0 0]) ?_ 1 _ rfl; (with_reducible repeat (first | refine blk_drewN ?_ _ | refine blk_drew ?_ | refine blk_alloc ?_ _)); refine blk_put (cs := #[.int .i64 0, .slice none 0 0]) ?_ 0 _ rfl; (with_reducible repeat (first | refine blk_drewN ?_ _ | refine blk_drew ?_ | refine blk_alloc ?_ _)); exact BK157.out) Try.underlying50 rfl (by kernel_rfl)) rfl ?_
    exact ⟨_, by first | rfl | (simp [errW_none, errW_some] <;> rfl) | (simp [*, errW_none, errW_some] <;> rfl), by first | exact Kd.R_nil _ _ _ _ _ | exact Kd.N_nil _ _ _ _ _ | exact Kd.V_nil _ _ _ _ _ | exact Kd.Q_nil _ _ _ _ _ | exact Kd.S_nil _ _ _ _ _, by repeat (first | (with_reducible first | exact HB.out | apply below_alloc | apply pw_below_drewN | apply below_drew1 | refine below_set ?_ GE156.out | refine below_set ?_ GE157.out) | exact HB.out)⟩

end Go.Proofs.Ytdoclpgciadjaaa.P

namespace Go.Proofs.Ytdoclpgciadjaaa.P
open Go.RowKit Go.Proofs.YtdoclpgciadjaaaW.PrintWords Go.Proofs.YtdoclpgciadjaaaW.PrintLast Go.Proofs.YtdoclpgciadjaaaW.PrintMore
attribute [local go_sem] max2_int min2_int max_two min_two max_three min_three max_four min_four
set_option linter.unusedVariables false
set_option linter.unusedSimpArgs false

/-! ### laws_toByteS: function 91 -/
def laws_toByteS.l0 : Nat → List Int → List Int → Int → Option (List Int)
  | 0, _, _, _ => none
  | k + 1, x0, x3, x4 => if x4 < (x0.length : Int) then (if 0 ≤ x4 then (if x4 < (x3.length : Int) then (laws_toByteS.l0 k x0 (x3.set (x4 : Int).toNat (rd x0 x4)) (wrap64 (x4 + 1))) else (none)) else (none)) else (some x3)
def laws_toByteS.f (k : Nat) (l0 : List Int) : Option (List Int) := if 0 ≤ (l0.length : Int) then (if ((l0.length : Int) : Int).toNat ≤ 281474976710656 then (laws_toByteS.l0 k l0 (List.replicate ((l0.length : Int) : Int).toNat 0) 0) else (none)) else (none)
theorem laws_toByteS.mono_l : ∀ k, (∀ y0 y1 y2, LeO (laws_toByteS.l0 k y0 y1 y2) (laws_toByteS.l0 (k + 1) y0 y1 y2))
  | 0 => fun _ _ _ r h => by simp [laws_toByteS.l0] at h
  | k + 1 => by
    have ih0 := laws_toByteS.mono_l k
    · intro y0 y1 y2
      unfold laws_toByteS.l0
      repeat' first
      | (with_reducible exact ih0 _ _ _)
      | (with_reducible exact LeO.refl _)
      | (with_reducible exact LeO.none _)
      | (with_reducible refine LeO.ite ?_ ?_)
      | (with_reducible refine LeO.bind ?_ (fun _ => ?_))
      | exact ih0 _ _ _
      | exact LeO.none _
      | refine LeO.ite ?_ ?_
      | refine LeO.bind ?_ (fun _ => ?_)
theorem laws_toByteS.mono : ∀ a0 k, LeO (laws_toByteS.f k a0) (laws_toByteS.f (k + 1) a0) := by
  intro a0 k
  have ih0 := laws_toByteS.mono_l k
  unfold laws_toByteS.f
  repeat' first
      | (with_reducible exact ih0 _ _ _)
      | (with_reducible exact LeO.refl _)
      | (with_reducible exact LeO.none _)
      | (with_reducible refine LeO.ite ?_ ?_)
      | (with_reducible refine LeO.bind ?_ (fun _ => ?_))
      | exact ih0 _ _ _
      | exact LeO.none _
      | refine LeO.ite ?_ ?_
      | refine LeO.bind ?_ (fun _ => ?_)
set_option maxHeartbeats 8000000 in
set_option maxRecDepth 100000 in
theorem laws_toByteS.calls (k : Nat) (A0 : Option Addr) (c0 : Nat) (l0 : List Int) (r : List Int) (w : World) (hr0 : Kd.C (Kd.int .u8) w A0 l0.length l0) (hc0 : l0.length ≤ c0) (h : laws_toByteS.f k l0 = some r) :
    Calls Try.prog 91 #[.slice A0 l0.length c0] w fun e w' => ∃ v0_ : Value, e = .returned (v0_) ∧ Kd.R (Kd.int .u8) 5 w' w.heap.size (fun _ => True) v0_ r ∧ Below w.heap.size w w' := by
  have HR0 := Aside0.mk hr0
  have HC0 := Aside0.mk hc0
  clear hr0 hc0
  have HB := Aside0.mk (Below.refl w.heap.size w)
  have H : (if 0 ≤ (l0.length : Int) then (if ((l0.length : Int) : Int).toNat ≤ 281474976710656 then (laws_toByteS.l0 k l0 (List.replicate ((l0.length : Int) : Int).toNat 0) 0) else (none)) else (none)) = some r := h
  clear h
  by_cases c2 : 0 ≤ (l0.length : Int)
  · rw [if_pos c2] at H
    have c2b0 := eq_true c2
    have c2b1 : decide (0 ≤ (l0.length : Int)) = true := decide_eq_true c2
    clear c2
    by_cases c3 : ((l0.length : Int) : Int).toNat ≤ 281474976710656
    · rw [if_pos c3] at H
      have c3b0 := eq_true c3
      have c3b1 : decide (((l0.length : Int) : Int).toNat ≤ 281474976710656) = true := decide_eq_true c3
      clear c3
      obtain ⟨y164, hy164⟩ : ∃ y_ : List Int, y_ = (List.replicate ((l0.length : Int) : Int).toNat 0) := ⟨_, rfl⟩
      replace H : (laws_toByteS.l0 k l0 y164 0) = some r := by first | (rw [hy164]; with_reducible exact H) | (have H2_ := (Option.bind_some _ _).symm.trans H; rw [hy164]; with_reducible exact H2_) | (have H2_ := (Option.bind_some _ _).symm.trans H; with_reducible exact H2_) | with_reducible exact H | (rw [hy164]; exact H) | exact H
      have Ny164 := Aside0.mk hy164
      clear hy164
      have H' := Aside0.mk H
      clear H
      go_enter Try.func91, Try.ntmps91
      go_wp2_with (first | ((with_reducible refine gate_dst (N := 7) rfl ?_); refine Kd.R_make (Kd.int .u8) _ 5 rfl (N := 7) rfl 22 _ _ rfl (l0.length : Int) rfl rfl Try.underlying22 (.int .u8 0) 1 info5 rfl (by decide) (by omega) 0 (ok := fun _ => True) (okp := fun _ => True) rfl (fun _ hk => hk) trivial (of_decide_eq_true (by first | (with_reducible assumption) | assumption)) (Nat.le_trans (Nat.mul_le_mul_right _ (of_decide_eq_true (by first | (with_reducible assumption) | assumption) : (l0.length : Int).toNat ≤ 281474976710656)) (by omega)) (Below.refl _ _) (Nat.le_refl _) ?_; intro v165 w4 ho5 hb hg_ hnew_; clear hg_ hnew_; (first | rw [← Ny164.out] at ho5 | (simp only [Int.reduceToNat] at ho5; rw [← Ny164.out] at ho5)); have n0_ := Aside0.mk (Kd.R_lower ho5 (below_size (by repeat (first | (with_reducible first | exact HB.out | apply below_alloc | apply pw_below_drewN | apply below_drew1) | exact HB.out)))); have n1_ := Aside0.mk (below_step (by repeat (first | (with_reducible first | exact HB.out | apply below_alloc | apply pw_below_drewN | apply below_drew1) | exact HB.out)) hb); clear HB; have HO166 := n0_; have HB := n1_; clear n0_ n1_; clear hb ho5))
      go_loopg [4] k (fun kq v4 w' => ∃ (x3_1 : List Int) (x4_1 : Int), v4 = .int .i64 x4_1 ∧ Aside0 (laws_toByteS.l0 kq l0 x3_1 x4_1 = some r) ∧ Aside0 (kq ≤ k) ∧ Aside0 (Kd.R (Kd.int .u8) 5 w' w.heap.size (fun _ => True) v165 x3_1) ∧ Aside0 (Below w.heap.size w w'))
      case atStart => exact ⟨(y164), (0), (by first | rfl | (simp; done) | (simp [*]; done)), H', ⟨Nat.le_refl _⟩, ⟨by (with_reducible repeat (first | apply Kd.R_alloc | apply Kd.R_drewN | apply Kd.R_drew)); exact HO166.out⟩, ⟨by repeat (first | (with_reducible first | exact HB.out | apply below_alloc | apply pw_below_drewN | apply below_drew1) | exact HB.out)⟩⟩
      case round =>
        clear H'
        try clear c2
        try clear c2b0
        try clear c2b1
        try clear p2
        try clear c3
        try clear c3b0
        try clear c3b1
        obtain ⟨x3_1, x4_1, rfl, HA, HK1, HO_3, HB⟩ := hrel
        cases gk with
        | zero => exact absurd HA.out (by simp [laws_toByteS.l0])
        | succ k1 =>
          have H := HA.out
          clear HA
          simp only [laws_toByteS.l0] at H
          by_cases c6 : x4_1 < (l0.length : Int)
          · rw [if_pos c6] at H
            have c6b0 : decide (x4_1 < (l0.length : Int)) = true := decide_eq_true c6
            clear c6
            by_cases c7 : 0 ≤ x4_1
            · rw [if_pos c7] at H
              have c7b0 : decide (0 ≤ x4_1) = true := decide_eq_true c7
              clear c7
              by_cases c8 : x4_1 < (x3_1.length : Int)
              · rw [if_pos c8] at H
                have c8b0 : decide (x4_1 < (x3_1.length : Int)) = true := decide_eq_true c8
                clear c8
                obtain ⟨y168, hy168⟩ : ∃ y_ : List Int, y_ = (x3_1.set (x4_1 : Int).toNat (rd l0 x4_1)) := ⟨_, rfl⟩
                replace H : (laws_toByteS.l0 k1 l0 y168 (wrap64 (x4_1 + 1))) = some r := by first | (rw [hy168]; with_reducible exact H) | (have H2_ := (Option.bind_some _ _).symm.trans H; rw [hy168]; with_reducible exact H2_) | (have H2_ := (Option.bind_some _ _).symm.trans H; with_reducible exact H2_) | with_reducible exact H | (rw [hy168]; exact H) | exact H
                have Ny168 := Aside0.mk hy168
                clear hy168
                have H' := Aside0.mk H
                clear H
                have p167 : 0 ≤ (x4_1 : Int) := of_decide_eq_true (by first | (with_reducible assumption) | assumption)
                have q167 : x4_1 < (l0.length : Int) := of_decide_eq_true (by first | (with_reducible assumption) | assumption)
                obtain ⟨ad167, e167, hx167_0⟩ := Kd.at_int HR0.out x4_1 p167 q167
                cases e167
                replace hx167_0 := (HB.out.cell (World.block_lt_of_cell? w _ hx167_0)).trans hx167_0
                replace p167 := eq_true p167
                replace q167 := eq_true q167
                have p9 : 0 ≤ (x4_1 : Int) := of_decide_eq_true (by first | (with_reducible assumption) | assumption)
                have q9 : (x4_1 : Int) < ((x3_1.length : Int) : Int) := of_decide_eq_true (by first | (with_reducible assumption) | assumption)
                obtain ⟨go9, co9, eo9, gb9, gl9, cl9, HG9⟩ := Kd.R_form HO_3.out (by omega)
                (first | cases eo9 | (injection eo9 with ea_ en_ ec_; (first | subst ea_ | (injection ea_ with ea_; subst ea_)); subst ec_; clear en_))
                have GB9 := Aside0.mk gb9
                have GG9 := Aside0.mk HG9
                clear gb9 gl9 HG9
                obtain ⟨hx9_0, hf9_0⟩ := Kd.R_celln 0 HO_3.out (x4_1 : Int) p9 q9
                replace p9 := eq_true p9
                replace q9 := eq_true q9
                have HP10 := Kd.R_putg HO_3.out (x4_1 : Int) (rd l0 x4_1)
                go_wp2_with (first | ((with_reducible refine gate_store (t := 5) (p := 20) rfl ?_); refine store_event (t := 5) (p := 20) (v := ?vo_w11) (w1 := (wr.setCell ⟨go9, (x4_1 : Int).toNat, none⟩ (.int .u8 (rd l0 x4_1)))) ?hg ?ho ?hn ?hr ?_; (case ho => rfl); (case hg => rfl); (case hn => rfl); (case hr => first | (go_simp; done) | (go_simp; rfl)); intro w11 hw; have hg : wr.grownBy w11 (some go9) := (by rw [hw]; exact HP10.2); have hp_ : Kd.R (Kd.int .u8) 5 w11 w.heap.size (fun _ => True) (.slice (some ⟨go9, 0, none⟩) x3_1.length co9) y168 := (by rw [hw, Ny168.out]; exact HP10.1); clear HP10; have n0_ := Aside0.mk (hp_); have n1_ := Aside0.mk ((by rw [hw]; exact below_set (HB.out) GB9.out : Below w.heap.size w w11)); clear HO_3; clear HB; have HO_3 := n0_; have HB := n1_; clear n0_ n1_; clear hg hw hp_))
                go_roundg k1
                case measure => have := HK1.out; omega
                case rel => exact ⟨(y168), (wrap64 (x4_1 + 1)), (by first | rfl | (simp; done) | (simp [*]; done)), H', ⟨by have := HK1.out; omega⟩, ⟨by (with_reducible repeat (first | apply Kd.R_alloc | apply Kd.R_drewN | apply Kd.R_drew)); exact HO_3.out⟩, ⟨by repeat (first | (with_reducible first | exact HB.out | apply below_alloc | apply pw_below_drewN | apply below_drew1) | exact HB.out)⟩⟩
              · rw [if_neg c8] at H
                exact absurd H (by simp)
            · rw [if_neg c7] at H
              exact absurd H (by simp)
          · rw [if_neg c6] at H
            have c6b0 : decide (x4_1 < (l0.length : Int)) = false := decide_eq_false c6
            clear c6
            obtain rfl := Option.some.inj H
            go_wp2
            go_ret
            exact ⟨_, by first | rfl | (simp [errW_none, errW_some] <;> rfl) | (simp [*, errW_none, errW_some] <;> rfl), by (with_reducible repeat (first | apply Kd.R_alloc | apply Kd.R_drewN | apply Kd.R_drew)); exact HO_3.out, by repeat (first | (with_reducible first | exact HB.out | apply below_alloc | apply pw_below_drewN | apply below_drew1) | exact HB.out)⟩
    · rw [if_neg c3] at H
      exact absurd H (by simp)
  · rw [if_neg c2] at H
    exact absurd H (by simp)

end Go.Proofs.Ytdoclpgciadjaaa.P

namespace Go.Proofs.Ytdoclpgciadjaaa.P
open Go.RowKit Go.Proofs.YtdoclpgciadjaaaW.PrintWords Go.Proofs.YtdoclpgciadjaaaW.PrintLast Go.Proofs.YtdoclpgciadjaaaW.PrintMore
attribute [local go_sem] max2_int min2_int max_two min_two max_three min_three max_four min_four
set_option linter.unusedVariables false
set_option linter.unusedSimpArgs false

/-! ### laws_toFrame: function 33 -/
def laws_toFrame.f (k : Nat) (a0_0 : Bool) (a0_1 : Int) (a0_2 : Bool) (a0_3 : Int) (l0_4 : List Int) : Option (Bool × Int × Bool × Int × List Int) := (laws_toByteS.f k l0_4).bind fun t172 => (some (a0_0, a0_1, a0_2, a0_3, t172))
theorem laws_toFrame.mono : ∀ a0 a1 a2 a3 a4 k, LeO (laws_toFrame.f k a0 a1 a2 a3 a4) (laws_toFrame.f (k + 1) a0 a1 a2 a3 a4) := by
  intro a0 a1 a2 a3 a4 k
  unfold laws_toFrame.f
  repeat' first
      | (with_reducible exact laws_toByteS.mono _ _)
      | (with_reducible exact LeO.refl _)
      | (with_reducible exact LeO.none _)
      | (with_reducible refine LeO.ite ?_ ?_)
      | (with_reducible refine LeO.bind ?_ (fun _ => ?_))
      | exact laws_toByteS.mono _ _
      | exact LeO.none _
      | refine LeO.ite ?_ ?_
      | refine LeO.bind ?_ (fun _ => ?_)
set_option maxHeartbeats 8000000 in
set_option maxRecDepth 100000 in
theorem laws_toFrame.calls (k : Nat) (a0_0 : Bool) (a0_1 : Int) (a0_2 : Bool) (a0_3 : Int) (A0_4 : Option Addr) (c0_4 : Nat) (l0_4 : List Int) (r1 : Bool) (r2 : Int) (r3 : Bool) (r4 : Int) (r5 : List Int) (w : World) (hr0_4 : Kd.C (Kd.int .u8) w A0_4 l0_4.length l0_4) (hc0_4 : l0_4.length ≤ c0_4) (h : laws_toFrame.f k a0_0 a0_1 a0_2 a0_3 l0_4 = some (r1, r2, r3, r4, r5)) :
    Calls Try.prog 33 #[.agg #[.bool a0_0, .int .u32 a0_1, .bool a0_2, .int .i64 a0_3, .slice A0_4 l0_4.length c0_4]] w fun e w' => ∃ v4_ : Value, e = .returned (.agg #[.bool r1, .int .u32 r2, .bool r3, .int .i64 r4, v4_]) ∧ Kd.R (Kd.int .u8) 5 w' w.heap.size (fun _ => True) v4_ r5 ∧ Below w.heap.size w w' := by
  have hu46 := Try.underlying46
  have hu25 := Try.underlying25
  have HR0_4 := Aside0.mk hr0_4
  have HC0_4 := Aside0.mk hc0_4
  clear hr0_4 hc0_4
  have HB := Aside0.mk (Below.refl w.heap.size w)
  have H : ((laws_toByteS.f k l0_4).bind fun t172 => (some (a0_0, a0_1, a0_2, a0_3, t172))) = some (r1, r2, r3, r4, r5) := h
  clear h
  replace H := Option.bind_eq_some_iff.mp H
  obtain ⟨t172, A20, H⟩ := H
  replace H : (some (a0_0, a0_1, a0_2, a0_3, t172)) = some (r1, r2, r3, r4, r5) := H
  have A2 := Aside0.mk A20
  clear A20
  simp only [Option.some.injEq, Prod.mk.injEq] at H
  obtain ⟨rfl, rfl, rfl, rfl, rfl⟩ := H
  go_enter Try.func33, Try.ntmps33
  go_wp2_with (first | ((with_reducible refine gate_dst (N := 1) rfl ?_); refine box_event ?hg (N := 1) ?hd (cs := #[.bool a0_0, .int .u32 a0_1, .bool a0_2, .int .i64 a0_3, .slice A0_4 l0_4.length c0_4]) (t := 46) ?hr ?_; (case hd => rfl); (case hg => rfl); (case hr => first | (go_simp; done) | (go_simp; rfl)); intro gb169 hg w3 hbox hb; have n0_ := Aside0.mk (below_step (by repeat (first | (with_reducible first | exact HB.out | apply below_alloc | apply pw_below_drewN | apply below_drew1) | exact HB.out)) hb); have n1_ := Aside0.mk (hbox); have n2_ := Aside0.mk ((by rw [hg]; exact (below_size (by repeat (first | (with_reducible first | exact HB.out | apply below_alloc | apply pw_below_drewN | apply below_drew1) | exact HB.out))) : w.heap.size ≤ gb169)); have n3_ := Aside0.mk ((by rw [hg]; exact (below_size (by repeat (first | (with_reducible first | exact HB.out | apply below_alloc | apply pw_below_drewN | apply below_drew1) | exact HB.out))) : w.heap.size ≤ gb169)); clear HB; have HB := n0_; have BK169 := n1_; have GW169 := n2_; have GE169 := n3_; clear n0_ n1_ n2_ n3_; clear hb hbox hg) | ((with_reducible refine gate_dst (N := 2) rfl ?_); refine box_event ?hg (N := 2) ?hd (cs := #[.bool false, .int .u32 0, .bool false, .int .i64 0, .slice none 0 0]) (t := 25) ?hr ?_; (case hd => rfl); (case hg => rfl); (case hr => first | (go_simp; done) | (go_simp; rfl)); intro gb170 hg w4 hbox hb; have n0_ := Aside0.mk (blk_below (g := gb169) (o := .cells #[.bool a0_0, .int .u32 a0_1, .bool a0_2, .int .i64 a0_3, .slice A0_4 l0_4.length c0_4] 46 (0, 0)) (by (with_reducible repeat (first | refine blk_drewN ?_ _ | refine blk_drew ?_ | refine blk_alloc ?_ _)); exact BK169.out) hb); have n1_ := Aside0.mk (below_step (by repeat (first | (with_reducible first | exact HB.out | apply below_alloc | apply pw_below_drewN | apply below_drew1 | refine below_set ?_ GE169.out) | exact HB.out)) hb); have n2_ := Aside0.mk (hbox); have n3_ := Aside0.mk ((by rw [hg]; exact (below_size (by repeat (first | (with_reducible first | exact HB.out | apply below_alloc | apply pw_below_drewN | apply below_drew1 | refine below_set ?_ GE169.out) | exact HB.out))) : w.heap.size ≤ gb170)); have n4_ := Aside0.mk ((by rw [hg]; exact (below_size (by repeat (first | (with_reducible first | exact HB.out | apply below_alloc | apply pw_below_drewN | apply below_drew1 | refine below_set ?_ GE169.out) | exact HB.out))) : w.heap.size ≤ gb170)); have n5_ := Aside0.mk ((by rw [hg]; exact Nat.ne_of_lt (blk_lt (g := gb169) (o := .cells #[.bool a0_0, .int .u32 a0_1, .bool a0_2, .int .i64 a0_3, .slice A0_4 l0_4.length c0_4] 46 (0, 0)) (by (with_reducible repeat (first | refine blk_drewN ?_ _ | refine blk_drew ?_ | refine blk_alloc ?_ _)); exact BK169.out)) : gb169 ≠ gb170)); have n6_ := Aside0.mk ((by rw [hg]; exact Nat.ne_of_gt (blk_lt (g := gb169) (o := .cells #[.bool a0_0, .int .u32 a0_1, .bool a0_2, .int .i64 a0_3, .slice A0_4 l0_4.length c0_4] 46 (0, 0)) (by (with_reducible repeat (first | refine blk_drewN ?_ _ | refine blk_drew ?_ | refine blk_alloc ?_ _)); exact BK169.out)) : gb170 ≠ gb169)); clear BK169; clear HB; have BK169 := n0_; have HB := n1_; have BK170 := n2_; have GW170 := n3_; have GE170 := n4_; have NB169_170 := n5_; have NB170_169 := n6_; clear n0_ n1_ n2_ n3_ n4_ n5_ n6_; clear hb hbox hg) | ((with_reducible refine gate_dst (N := 3) rfl ?_); refine box_event ?hg (N := 3) ?hd (cs := #[.bool false, .int .u32 0, .bool false, .int .i64 0, .slice none 0 0]) (t := 25) ?hr ?_; (case hd => rfl); (case hg => rfl); (case hr => first | (go_simp; done) | (go_simp; rfl)); intro gb171 hg w5 hbox hb; have n0_ := Aside0.mk (blk_below (g := gb169) (o := .cells #[.bool a0_0, .int .u32 a0_1, .bool a0_2, .int .i64 a0_3, .slice A0_4 l0_4.length c0_4] 46 (0, 0)) (by (with_reducible repeat (first | refine blk_drewN ?_ _ | refine blk_drew ?_ | refine blk_alloc ?_ _)); exact BK169.out) hb); have n1_ := Aside0.mk (blk_below (g := gb170) (o := .cells #[.bool false, .int .u32 0, .bool false, .int .i64 0, .slice none 0 0] 25 (0, 0)) (by (with_reducible repeat (first | refine blk_drewN ?_ _ | refine blk_drew ?_ | refine blk_alloc ?_ _)); exact BK170.out) hb); have n2_ := Aside0.mk (below_step (by repeat (first | (with_reducible first | exact HB.out | apply below_alloc | apply pw_below_drewN | apply below_drew1 | refine below_set ?_ GE169.out | refine below_set ?_ GE170.out) | exact HB.out)) hb); have n3_ := Aside0.mk (hbox); have n4_ := Aside0.mk ((by rw [hg]; exact (below_size (by repeat (first | (with_reducible first | exact HB.out | apply below_alloc | apply pw_below_drewN | apply below_drew1 | refine below_set ?_ GE169.out | refine below_set ?_ GE170.out) | exact HB.out))) : w.heap.size ≤ gb171)); have n5_ := Aside0.mk ((by rw [hg]; exact (below_size (by repeat (first | (with_reducible first | exact HB.out | apply below_alloc | apply pw_below_drewN | apply below_drew1 | refine below_set ?_ GE169.out | refine below_set ?_ GE170.out) | exact HB.out))) : w.heap.size ≤ gb171)); have n6_ := Aside0.mk ((by rw [hg]; exact Nat.ne_of_lt (blk_lt (g := gb169) (o := .cells #[.bool a0_0, .int .u32 a0_1, .bool a0_2, .int .i64 a0_3, .slice A0_4 l0_4.length c0_4] 46 (0, 0)) (by (with_reducible repeat (first | refine blk_drewN ?_ _ | refine blk_drew ?_ | refine blk_alloc ?_ _)); exact BK169.out)) : gb169 ≠ gb171)); have n7_ := Aside0.mk ((by rw [hg]; exact Nat.ne_of_gt (blk_lt (g := gb169) (o := .cells #[.bool a0_0, .int .u32 a0_1, .bool a0_2, .int .i64 a0_3, .slice A0_4 l0_4.length c0_4] 46 (0, 0)) (by (with_reducible repeat (first | refine blk_drewN ?_ _ | refine blk_drew ?_ | refine blk_alloc ?_ _)); exact BK169.out)) : gb171 ≠ gb169)); have n8_ := Aside0.mk ((by rw [hg]; exact Nat.ne_of_lt (blk_lt (g := gb170) (o := .cells #[.bool false, .int .u32 0, .bool false, .int .i64 0, .slice none 0 0] 25 (0, 0)) (by (with_reducible repeat (first | refine blk_drewN ?_ _ | refine blk_drew ?_ | refine blk_alloc ?_ _)); exact BK170.out)) : gb170 ≠ gb171)); have n9_ := Aside0.mk ((by rw [hg]; exact Nat.ne_of_gt (blk_lt (g := gb170) (o := .cells #[.bool false, .int .u32 0, .bool false, .int .i64 0, .slice none 0 0] 25 (0, 0)) (by (with_reducible repeat (first | refine blk_drewN ?_ _ | refine blk_drew ?_ | refine blk_alloc ?_ _)); exact BK170.out)) : gb171 ≠ gb170)); clear BK169; clear BK170; clear HB; have BK169 := n0_; have BK170 := n1_; have HB := n2_; have BK171 := n3_; have GW171 := n4_; have GE171 := n5_; have NB169_171 := n6_; have NB171_169 := n7_; have NB170_171 := n8_; have NB171_170 := n9_; clear n0_ n1_ n2_ n3_ n4_ n5_ n6_ n7_ n8_ n9_; clear hb hbox hg; have hnb6 := NB169_170.out; have hnc6 := NB170_169.out; have hnb7 := NB169_171.out; have hnc7 := NB171_169.out; have hcz8_0 : w5.cell? ⟨gb169, 0, none⟩ = some (.bool a0_0) := (blk_cell BK169.out 0).trans rfl; have hcz8_1 : w5.cell? ⟨gb169, 1, none⟩ = some (.int .u32 a0_1) := (blk_cell BK169.out 1).trans rfl; have hcz8_2 : w5.cell? ⟨gb169, 2, none⟩ = some (.bool a0_2) := (blk_cell BK169.out 2).trans rfl; have hcz8_3 : w5.cell? ⟨gb169, 3, none⟩ = some (.int .i64 a0_3) := (blk_cell BK169.out 3).trans rfl; have hcz8_4 : w5.cell? ⟨gb169, 4, none⟩ = some (.slice A0_4 l0_4.length c0_4) := (blk_cell BK169.out 4).trans rfl; have hfz8_0 := blk_frozen BK169.out 0; have hfz8_1 := blk_frozen BK169.out 1; have hfz8_2 := blk_frozen BK169.out 2; have hfz8_3 := blk_frozen BK169.out 3; have hfz8_4 := blk_frozen BK169.out 4; have hnb9 := NB171_170.out; have hnc9 := NB170_171.out; have hcz10_0 : w5.cell? ⟨gb171, 0, none⟩ = some (.bool false) := (blk_cell BK171.out 0).trans rfl; have hcz10_1 : w5.cell? ⟨gb171, 1, none⟩ = some (.int .u32 0) := (blk_cell BK171.out 1).trans rfl; have hcz10_2 : w5.cell? ⟨gb171, 2, none⟩ = some (.bool false) := (blk_cell BK171.out 2).trans rfl; have hcz10_3 : w5.cell? ⟨gb171, 3, none⟩ = some (.int .i64 0) := (blk_cell BK171.out 3).trans rfl; have hcz10_4 : w5.cell? ⟨gb171, 4, none⟩ = some (.slice none 0 0) := (blk_cell BK171.out 4).trans rfl; have hfz10_0 := blk_frozen BK171.out 0; have hfz10_1 := blk_frozen BK171.out 1; have hfz10_2 := blk_frozen BK171.out 2; have hfz10_3 := blk_frozen BK171.out 3; have hfz10_4 := blk_frozen BK171.out 4) | ((with_reducible refine gate_callee (f := 91) rfl ?_); refine goesL_ (some 18) rfl rfl Try.func91 (by kernel_rfl) rfl #[.slice A0_4 l0_4.length c0_4] rfl (by (try simp only [List.map_toArray, List.map_cons, List.map_nil]); first | done | rfl | (simp only [List.length_drop, List.length_take]; rfl)) ?_; (with_reducible refine (laws_toByteS.calls k _ _ l0_4 t172 _ ?side1 ?side2 A2.out).mono ?_); (case side1 => exact Kd.C_below HR0_4.out (by repeat (first | (with_reducible first | exact HB.out | apply below_alloc | apply pw_below_drewN | apply below_drew1 | refine below_set ?_ GE169.out | refine below_set ?_ GE170.out | refine below_set ?_ GE171.out) | exact HB.out))); (case side2 => exact HC0_4.out); rintro e w11 ⟨v173, rfl, ho0, hb⟩; refine ⟨_, rfl, ?_⟩; have n0_ := Aside0.mk (Kd.R_lower ho0 (below_size (by repeat (first | (with_reducible first | exact HB.out | apply below_alloc | apply pw_below_drewN | apply below_drew1 | refine below_set ?_ GE169.out | refine below_set ?_ GE170.out | refine below_set ?_ GE171.out) | exact HB.out)))); have n1_ := Aside0.mk (blk_below (g := gb169) (o := .cells #[.bool a0_0, .int .u32 a0_1, .bool a0_2, .int .i64 a0_3, .slice A0_4 l0_4.length c0_4] 46 (0, 0)) (by (with_reducible repeat (first | refine blk_drewN ?_ _ | refine blk_drew ?_ | refine blk_alloc ?_ _)); refine blk_far ?_ NB169_171.out _; (with_reducible repeat (first | refine blk_drewN ?_ _ | refine blk_drew ?_ | refine blk_alloc ?_ _)); refine blk_far ?_ NB169_171.out _; (with_reducible repeat (first | refine blk_drewN ?_ _ | refine blk_drew ?_ | refine blk_alloc ?_ _)); refine blk_far ?_ NB169_171.out _; (with_reducible repeat (first | refine blk_drewN ?_ _ | refine blk_drew ?_ | refine blk_alloc ?_ _)); refine blk_far ?_ NB169_171.out _; (with_reducible repeat (first | refine blk_drewN ?_ _ | refine blk_drew ?_ | refine blk_alloc ?_ _)); exact BK169.out) hb); have n2_ := Aside0.mk (blk_below (g := gb170) (o := .cells #[.bool false, .int .u32 0, .bool false, .int .i64 0, .slice none 0 0] 25 (0, 0)) (by (with_reducible repeat (first | refine blk_drewN ?_ _ | refine blk_drew ?_ | refine blk_alloc ?_ _)); refine blk_far ?_ NB170_171.out _; (with_reducible repeat (first | refine blk_drewN ?_ _ | refine blk_drew ?_ | refine blk_alloc ?_ _)); refine blk_far ?_ NB170_171.out _; (with_reducible repeat (first | refine blk_drewN ?_ _ | refine blk_drew ?_ | refine blk_alloc ?_ _)); refine blk_far ?_ NB170_171.out _; (with_reducible repeat (first | refine blk_drewN ?_ _ | refine blk_drew ?_ | refine blk_alloc ?_ _)); refine blk_far ?_ NB170_171.out _; (with_reducible repeat (first | refine blk_drewN ?_ _ | refine blk_drew ?_ | refine blk_alloc ?_ _)); exact BK170.out) hb); have n3_ := Aside0.mk (blk_below (g := gb171) (o := .cells #[.bool a0_0, .int .u32 a0_1, .bool a0_2, .int .i64 a0_3, .slice none 0 0] 25 (0, 0)) (by (with_reducible repeat (first | refine blk_drewN ?_ _ | refine blk_drew ?_ | refine blk_alloc ?_ _)); refine blk_put (cs := #[.bool a0_0, .int .u32 a0_1, .bool a0_2, .int .i64 0, .slice none 0 0]) ?_ 3 _ rfl; (with_reducible repeat (first | refine blk_drewN ?_ _ | refine blk_drew ?_ | refine blk_alloc ?_ _)); refine blk_put (cs := #[.bool a0_0, .int .u32 a0_1, .bool false, .int .i64 0, .slice none 0 0]) ?_ 2 _ rfl; (with_reducible repeat (first | refine blk_drewN ?_ _ | refine blk_drew ?_ | refine blk_alloc ?_ _)); refine blk_put (cs := #[.bool a0_0, .int .u32 0, .bool false, .int .i64 0, .slice none 0 0]) ?_ 1 _ rfl; (with_reducible repeat (first | refine blk_drewN ?_ _ | refine blk_drew ?_ | refine blk_alloc ?_ _)); refine blk_put (cs := #[.bool false, .int .u32 0, .bool false, .int .i64 0, .slice none 0 0]) ?_ 0 _ rfl; (with_reducible repeat (first | refine blk_drewN ?_ _ | refine blk_drew ?_ | refine blk_alloc ?_ _)); exact BK171.out) hb); have n4_ := Aside0.mk (below_step (by repeat (first | (with_reducible first | exact HB.out | apply below_alloc | apply pw_below_drewN | apply below_drew1 | refine below_set ?_ GE169.out | refine below_set ?_ GE170.out | refine below_set ?_ GE171.out) | exact HB.out)) hb); clear BK169; clear BK170; clear BK171; clear HB; have HO174 := n0_; have BK169 := n1_; have BK170 := n2_; have BK171 := n3_; have HB := n4_; clear n0_ n1_ n2_ n3_ n4_; (try clear hb); (try clear hb2); (try clear hk); (try clear hi); (try clear ho0); obtain ⟨Ao12, co12, eo12⟩ := Kd.R_slice HO174.out; subst eo12; have hcz13_0 : w11.cell? ⟨gb171, 0, none⟩ = some (.bool a0_0) := (blk_cell BK171.out 0).trans rfl; have hcz13_1 : w11.cell? ⟨gb171, 1, none⟩ = some (.int .u32 a0_1) := (blk_cell BK171.out 1).trans rfl; have hcz13_2 : w11.cell? ⟨gb171, 2, none⟩ = some (.bool a0_2) := (blk_cell BK171.out 2).trans rfl; have hcz13_3 : w11.cell? ⟨gb171, 3, none⟩ = some (.int .i64 a0_3) := (blk_cell BK171.out 3).trans rfl; have hcz13_4 : w11.cell? ⟨gb171, 4, none⟩ = some (.slice none 0 0) := (blk_cell BK171.out 4).trans rfl; have hfz13_0 := blk_frozen BK171.out 0; have hfz13_1 := blk_frozen BK171.out 1; have hfz13_2 := blk_frozen BK171.out 2; have hfz13_3 := blk_frozen BK171.out 3; have hfz13_4 := blk_frozen BK171.out 4; have hcz14_0 : w11.cell? ⟨gb170, 0, none⟩ = some (.bool false) := (blk_cell BK170.out 0).trans rfl; have hcz14_1 : w11.cell? ⟨gb170, 1, none⟩ = some (.int .u32 0) := (blk_cell BK170.out 1).trans rfl; have hcz14_2 : w11.cell? ⟨gb170, 2, none⟩ = some (.bool false) := (blk_cell BK170.out 2).trans rfl; have hcz14_3 : w11.cell? ⟨gb170, 3, none⟩ = some (.int .i64 0) := (blk_cell BK170.out 3).trans rfl; have hcz14_4 : w11.cell? ⟨gb170, 4, none⟩ = some (.slice none 0 0) := (blk_cell BK170.out 4).trans rfl; have hfz14_0 := blk_frozen BK170.out 0; have hfz14_1 := blk_frozen BK170.out 1; have hfz14_2 := blk_frozen BK170.out 2; have hfz14_3 := blk_frozen BK170.out 3; have hfz14_4 := blk_frozen BK170.out 4))
  refine bodyPost_ret (results_cell_row rfl _ _ gb170 25 #[.bool a0_0, .int .u32 a0_1, .bool a0_2, .int .i64 a0_3, .slice Ao12 t172.length co12] (0, 0) _ rfl (by (with_reducible repeat (first | refine blk_drewN ?_ _ | refine blk_drew ?_ | refine blk_alloc ?_ _)); refine blk_put (cs := #[.bool a0_0, .int .u32 a0_1, .bool a0_2, .int .i64 a0_3, .slice none 0 0]) ?_ 4 _ rfl; (with_reducible repeat (first | refine blk_drewN ?_ _ | refine blk_drew ?_ | refine blk_alloc ?_ _)); refine blk_put (cs := #[.bool a0_0, .int .u32 a0_1, .bool a0_2, .int .i64 0, .slice none 0 0]) ?_ 3 _ rfl; (with_reducible repeat (first | refine blk_drewN ?_ _ | refine blk_drew ?_ | refine blk_alloc ?_ _)); refine blk_put (cs := #[.bool a0_0, .int .u32 a0_1, .bool false, .int .i64 0, .slice none 0 0]) ?_ 2 _ rfl; (with_reducible repeat (first | refine blk_drewN ?_ _ | refine blk_drew ?_ | refine blk_alloc ?_ _)); refine blk_put (cs := #[.bool a0_0, .int .u32 0, .bool false, .int .i64 0, .slice none 0 0]) ?_ 1 _ rfl; (with_reducible repeat (first | refine blk_drewN ?_ _ | refine blk_drew ?_ | refine blk_alloc ?_ _)); refine blk_put (cs := #[.bool false, .int .u32 0, .bool false, .int .i64 0, .slice none 0 0]) ?_ 0 _ rfl; (with_reducible repeat (first | refine blk_drewN ?_ _ | refine blk_drew ?_ | refine blk_alloc ?_ _)); refine blk_far ?_ NB170_171.out _; (with_reducible repeat (first | refine blk_drewN ?_ _ | refine blk_drew ?_ | refine blk_alloc ?_ _)); exact BK170.out) Try.underlying25 rfl (by kernel_rfl)) rfl ?_
  exact ⟨_, by first | rfl | (simp [errW_none, errW_some] <;> rfl) | (simp [*, errW_none, errW_some] <;> rfl), by (with_reducible repeat (first | apply Kd.R_alloc | apply Kd.R_drewN | apply Kd.R_drew)); exact Kd.R_mono (Kd.R_far (p := ⟨gb170, 4, none⟩) (Kd.R_far (p := ⟨gb170, 3, none⟩) (Kd.R_far (p := ⟨gb170, 2, none⟩) (Kd.R_far (p := ⟨gb170, 1, none⟩) (Kd.R_far (p := ⟨gb170, 0, none⟩) (Kd.R_far (p := ⟨gb171, 4, none⟩) (Kd.R_types (Kd.R_types HO174.out BK171.out (by decide)) BK170.out (by decide)) (fun _ hk => hk.1.2) (.slice Ao12 t172.length co12)) (fun _ hk => hk.2) (.bool a0_0)) (fun _ hk => hk.2) (.int .u32 a0_1)) (fun _ hk => hk.2) (.bool a0_2)) (fun _ hk => hk.2) (.int .i64 a0_3)) (fun _ hk => hk.2) (.slice Ao12 t172.length co12)) (fun _ hk => trivial), by repeat (first | (with_reducible first | exact HB.out | apply below_alloc | apply pw_below_drewN | apply below_drew1 | refine below_set ?_ GE169.out | refine below_set ?_ GE170.out | refine below_set ?_ GE171.out) | exact HB.out)⟩

end Go.Proofs.Ytdoclpgciadjaaa.P

namespace Go.Proofs.Ytdoclpgciadjaaa.P
open Go.RowKit Go.Proofs.YtdoclpgciadjaaaW.PrintWords Go.Proofs.YtdoclpgciadjaaaW.PrintLast Go.Proofs.YtdoclpgciadjaaaW.PrintMore
attribute [local go_sem] max2_int min2_int max_two min_two max_three min_three max_four min_four
set_option linter.unusedVariables false
set_option linter.unusedSimpArgs false

-- GIVEN rounds=0 making=1 import=Derived.Test.YtdoclpgciadjaaaOwn
/-! ### impl_bitText: function 77 -/
def impl_bitText.f (a0 : ByteArray) (a1 : Int) : Option (Bool) := some (decide ((a0.size : Int) ≤ a1) && isBits a0)
theorem impl_bitText.calls (a0 : ByteArray) (a1 : Int) (r : Bool) (w : World) (h : impl_bitText.f a0 a1 = some r) :
    Calls Try.prog 77 #[.string a0, .int .i64 a1] w fun e w' => e = .returned (.bool r) ∧ Below w.heap.size w w' := by
  by_cases c1 : (a0.size : Int) ≤ a1
  · have c1b : decide (a1 < (a0.size : Int)) = false := decide_eq_false (by omega)
    have hr : Hid (r = isBits a0) := by
      have h1 := Option.some.inj h
      rw [decide_eq_true c1, Bool.true_and] at h1
      exact Lib.hid h1.symm
    clear h c1
    go_enter Try.func77, Try.ntmps77
    go_wp2
    go_loopw [] (fun w' => ∃ pos : Nat, w' = w.iter a0 pos ∧ BitsTo a0 pos) (fun w' => a0.size - w'.iterPos w.heap.size)
    case atStart => exact ⟨0, rfl, bitsTo_zero a0⟩
    case round =>
      obtain ⟨pos, rfl, hb⟩ := hrel
      have HB := Lib.hid hb
      clear hb
      by_cases hp : pos < a0.size
      · cases hbit : isBit (a0[pos]'hp) with
        | true =>
          have HT : Hid (isBit (a0[pos]'hp) = true) := Lib.hid hbit
          rcases isBit_cases hbit with e | e
          · have hnx := fun ty => next_bit (P := Try.prog) w a0 pos ty hp (b := 48) (by rw [e]; rfl) (by omega)
            clear e hbit
            go_wp2
            go_roundw
            case rel => exact ⟨pos + 1, rfl, bitsTo_succ HB.out hp HT.out⟩
            case measure => simp; omega
          · have hnx := fun ty => next_bit (P := Try.prog) w a0 pos ty hp (b := 49) (by rw [e]; rfl) (by omega)
            clear e hbit
            go_wp2
            go_roundw
            case rel => exact ⟨pos + 1, rfl, bitsTo_succ HB.out hp HT.out⟩
            case measure => simp; omega
        | false =>
          have HF := Lib.hid (isBits_not a0 hp hbit)
          obtain ⟨h48, h49⟩ := decode_notBit a0 pos hp hbit
          have h48' : ((((Utf8.decode a0 pos).1 : Nat) : Int) != 48) = true := by rw [bne, h48]; rfl
          have h49' : ((((Utf8.decode a0 pos).1 : Nat) : Int) != 49) = true := by rw [bne, h49]; rfl
          have hnx := fun ty => run_next_any (P := Try.prog) w a0 pos ty hp
          clear hbit
          go_wp2
          go_ret
          exact ⟨by rw [hr.out, HF.out]; rfl, below_iter _ _ _⟩
      · have hnx := fun ty => run_next_end (P := Try.prog) w a0 pos ty hp
        have HF := Lib.hid (isBits_of a0 HB.out hp)
        go_wp2
        go_ret
        exact ⟨by rw [hr.out, HF.out]; rfl, below_iter _ _ _⟩
  · have c1b : decide (a1 < (a0.size : Int)) = true := decide_eq_true (by omega)
    have hr : r = false := by
      have h1 := Option.some.inj h
      rw [decide_eq_false c1, Bool.false_and] at h1
      exact h1.symm
    subst hr
    clear h c1
    go_enter Try.func77, Try.ntmps77
    go_wp2
    go_ret
    exact ⟨rfl, Below.refl _ _⟩

end Go.Proofs.Ytdoclpgciadjaaa.P

namespace Go.Proofs.Ytdoclpgciadjaaa.P
open Go.RowKit Go.Proofs.YtdoclpgciadjaaaW.PrintWords Go.Proofs.YtdoclpgciadjaaaW.PrintLast Go.Proofs.YtdoclpgciadjaaaW.PrintMore
attribute [local go_sem] max2_int min2_int max_two min_two max_three min_three max_four min_four
set_option linter.unusedVariables false
set_option linter.unusedSimpArgs false

-- GIVEN rounds=0 making=0 import=Derived.Test.YtdoclpgciadjaaaOwn
/-! ### impl_crcBit: function 78 -/
def impl_crcBit.f (a0 : Int) (a1 : Int) : Option (Int) := some (crcI a0 a1)
theorem impl_crcBit.same (a0 : Int) (a1 : Int) (w : World) :
    Calls Try.prog 78 #[.int .i64 a0, .int .i64 a1] w fun e w' => e = .returned (.int .i64 (crcI a0 a1)) ∧ w = w' := by
  by_cases c3 : (Go.bits .xor .i64 (Go.bits .and .i64 (a0 / 16384) 1) a1) = 1
  · have c3b0 : ((Go.bits .xor .i64 (Go.bits .and .i64 (a0 / 16384) 1) a1) == 1) = true := beq_iff_eq.mpr c3
    have HC := Lib.hid c3
    clear c3
    go_enter Try.func78, Try.ntmps78
    go_wp2
    go_ret
    exact ⟨by unfold crcI; rw [if_pos HC.out]; rfl, rfl⟩
  · have c3b0 : ((Go.bits .xor .i64 (Go.bits .and .i64 (a0 / 16384) 1) a1) == 1) = false := beq_eq_false_iff_ne.mpr c3
    have HC := Lib.hid c3
    clear c3
    go_enter Try.func78, Try.ntmps78
    go_wp2
    go_ret
    exact ⟨by unfold crcI; rw [if_neg HC.out]; rfl, rfl⟩
theorem impl_crcBit.calls (a0 : Int) (a1 : Int) (r : Int) (w : World) (h : impl_crcBit.f a0 a1 = some r) :
    Calls Try.prog 78 #[.int .i64 a0, .int .i64 a1] w fun e w' => e = .returned (.int .i64 r) ∧ Drawn0 w w' := by
  obtain rfl := Option.some.inj h
  exact (impl_crcBit.same a0 a1 w).mono fun e w' ⟨he, hw⟩ => ⟨he, hw ▸ Drawn0.refl _⟩

end Go.Proofs.Ytdoclpgciadjaaa.P

namespace Go.Proofs.Ytdoclpgciadjaaa.P
open Go.RowKit Go.Proofs.YtdoclpgciadjaaaW.PrintWords Go.Proofs.YtdoclpgciadjaaaW.PrintLast Go.Proofs.YtdoclpgciadjaaaW.PrintMore
attribute [local go_sem] max2_int min2_int max_two min_two max_three min_three max_four min_four
set_option linter.unusedVariables false
set_option linter.unusedSimpArgs false

-- GIVEN rounds=0 making=1 import=Derived.Test.YtdoclpgciadjaaaOwn
/-! ### impl_Crc15: function 17 -/
def impl_Crc15.f (a0 : ByteArray) : Option (Int) := some (if a0.size ≤ 2000 ∧ isBits a0 = true then crcOf a0 else -1)
theorem impl_Crc15.calls (a0 : ByteArray) (r : Int) (w : World) (h : impl_Crc15.f a0 = some r) :
    Calls Try.prog 17 #[.string a0] w fun e w' => e = .returned (.int .i64 r) ∧ Below w.heap.size w w' := by
  by_cases c : a0.size ≤ 2000 ∧ isBits a0 = true
  · have HR : Hid (r = crcOf a0) := Lib.hid ((Option.some.inj h).symm.trans (if_pos c))
    clear h
    have hbt : Hid (impl_bitText.f a0 2000 = some true) := by
      refine Lib.hid ?_
      unfold impl_bitText.f
      rw [c.2, decide_eq_true (by omega)]; rfl
    have HB := Lib.hid c.2
    clear c
    go_enter Try.func17, Try.ntmps17
    go_wp2_with (go_at_call 77; refine (impl_bitText.calls _ _ true _ hbt.out).mono ?_; rintro e w1 ⟨rfl, hb1⟩)
    have HW := Lib.hid hb1
    clear hb1
    go_loopw [3] (fun n w' => ∃ pos : Nat, w' = w1.iter a0 pos ∧ n = .int .i64 (foldTo (fun r c => crcI r (c - 48)) 0 a0 pos)) (fun _ w' => a0.size - w'.iterPos w1.heap.size)
    case atStart => exact ⟨0, rfl, by rw [foldTo_zero]⟩
    case round =>
      obtain ⟨pos, rfl, rfl⟩ := hrel
      by_cases hp : pos < a0.size
      · have hbit := isBits_at HB.out hp
        rcases isBit_cases hbit with e | e
        · have hs := Lib.hid (foldTo_succ (fun r c => crcI r (c - 48)) 0 a0 pos hp (b := 48) (by rw [e]; rfl))
          have hnx := fun ty => next_bit (P := Try.prog) w1 a0 pos ty hp (b := 48) (by rw [e]; rfl) (by omega)
          clear e hbit
          go_wp2_with (go_at_call 78; refine (impl_crcBit.same _ _ _).mono ?_; rintro e w' ⟨rfl, rfl⟩)
          go_roundw
          case rel => exact ⟨pos + 1, rfl, by rw [hs.out]; rfl⟩
          case measure => simp; omega
        · have hs := Lib.hid (foldTo_succ (fun r c => crcI r (c - 48)) 0 a0 pos hp (b := 49) (by rw [e]; rfl))
          have hnx := fun ty => next_bit (P := Try.prog) w1 a0 pos ty hp (b := 49) (by rw [e]; rfl) (by omega)
          clear e hbit
          go_wp2_with (go_at_call 78; refine (impl_crcBit.same _ _ _).mono ?_; rintro e w' ⟨rfl, rfl⟩)
          go_roundw
          case rel => exact ⟨pos + 1, rfl, by rw [hs.out]; rfl⟩
          case measure => simp; omega
      · have hnx := fun ty => run_next_end (P := Try.prog) w1 a0 pos ty hp
        have hs := Lib.hid (foldTo_end (fun r c => crcI r (c - 48)) 0 a0 pos hp)
        go_wp2
        go_ret
        exact ⟨by rw [HR.out]; unfold crcOf; rw [← hs.out]; rfl, HW.out.alloc HW.out.size _⟩
  · obtain rfl : r = -1 := (Option.some.inj h).symm.trans (if_neg c)
    clear h
    have hbt : Hid (impl_bitText.f a0 2000 = some false) := by
      refine Lib.hid ?_
      unfold impl_bitText.f
      congr 1
      rw [Bool.and_eq_false_iff]
      by_cases h : isBits a0 = true
      · exact .inl (decide_eq_false fun h2 => c ⟨by omega, h⟩)
      · exact .inr (by simpa using h)
    clear c
    go_enter Try.func17, Try.ntmps17
    go_wp2_with (go_at_call 77; refine (impl_bitText.calls _ _ false _ hbt.out).mono ?_; rintro e w1 ⟨rfl, hb1⟩)
    go_ret
    exact ⟨rfl, hb1⟩

end Go.Proofs.Ytdoclpgciadjaaa.P

namespace Go.Proofs.Ytdoclpgciadjaaa.P
open Go.RowKit Go.Proofs.YtdoclpgciadjaaaW.PrintWords Go.Proofs.YtdoclpgciadjaaaW.PrintLast Go.Proofs.YtdoclpgciadjaaaW.PrintMore
attribute [local go_sem] max2_int min2_int max_two min_two max_three min_three max_four min_four
set_option linter.unusedVariables false
set_option linter.unusedSimpArgs false

-- GIVEN rounds=0 making=1 import=Derived.Test.YtdoclpgciadjaaaWorld
/-! ### impl_Stuff: function 20 -/
def impl_Stuff.f (a0 : ByteArray) : Option (ByteArray) := some (if a0.size ≤ 2000 ∧ isBits a0 = true then strOfNums (stuffL (bytesOf a0)) else ⟨#[]⟩)
structure StuffAt (s : ByteArray) (pos : Nat) (out : List Int) (run last : Int) : Prop where mk :: (out : stuffTo s pos = (out, run, last))
theorem StuffAt.bounds {s : ByteArray} {pos : Nat} {out : List Int} {run last : Int} (h : StuffAt s pos out run last) : out.length ≤ 2 * pos ∧ 0 ≤ run ∧ run ≤ pos := by
  have := stuffTo_bounds s pos
  rw [h.out] at this
  exact this
set_option maxHeartbeats 2000000 in
theorem impl_Stuff.yes (a0 : ByteArray) (w : World) (hsz : a0.size ≤ 2000) (hB0 : isBits a0 = true) :
    Calls Try.prog 20 #[.string a0] w fun e w' => e = .returned (.string (strOfNums (stuffL (bytesOf a0)))) ∧ Below w.heap.size w w' := by
  have hbt : Hid (impl_bitText.f a0 2000 = some true) := by
    refine Lib.hid ?_
    unfold impl_bitText.f
    rw [hB0, decide_eq_true (by omega)]; rfl
  have HB := Lib.hid hB0
  clear hB0
  have hcap : ((a0.size * 5 / 4 + 1 : Nat) : Int) = (a0.size : Int) * 5 / 4 + 1 := by omega
  go_enter Try.func20, Try.ntmps20
  go_wp2_with (go_at_call 77; refine (impl_bitText.calls _ _ true _ hbt.out).mono ?_; rintro e w1 ⟨rfl, hb1⟩; obtain ⟨w2, cap, hmk, ho2, hg2⟩ := make_R (P := Try.prog) (Kd.int .u8) w1 w.heap.size 22 5 (.int .u8 0) 1 Try.underlying22 infoU8 (a0.size * 5 / 4 + 1) (by omega) (by simp only [maxLen]; omega) hb1.size; rw [hcap] at hmk; have HO2 := Lib.hid ho2; have HBL := Lib.hid (hb1.grown hg2 hb1.size (fun k hk => by cases hk)); clear ho2 hb1 hg2 hcap)
  go_loopw [3, 4, 5] (fun v3 v4 v5 wr => ∃ (pos : Nat) (out : List Int) (run last : Int), StuffAt a0 pos out run last ∧ wr.heap[w2.heap.size]? = some (.stringIter a0 pos) ∧ Aside0 (Kd.R (Kd.int .u8) 5 wr w.heap.size (fun _ => True) v3 out) ∧ Aside0 (Below w.heap.size w wr) ∧ v4 = .int .i64 run ∧ v5 = .int .i32 last) (fun _ _ _ wr => a0.size - wr.iterPos w2.heap.size)
  case atStart => exact ⟨0, [], 0, 120, ⟨stuffTo_zero a0⟩, iter_new _ _ _, ⟨R_iter HO2.out a0 0⟩, ⟨HBL.out.alloc HBL.out.size _⟩, rfl, rfl⟩
  case round =>
    obtain ⟨pos, out, run, last, hst, hit, HO, HW, rfl, rfl⟩ := hrel
    obtain ⟨hl, hr0, hr1⟩ := hst.bounds
    by_cases hp : pos < a0.size
    · have hbit := isBits_at HB.out hp
      have HSZ : Hid (w.heap.size ≤ w2.heap.size) := Lib.hid HBL.out.size
      rcases isBit_cases hbit with e | e
      · have hnx := fun ty => next_bit_at (P := Try.prog) _ _ a0 pos ty hit hp (b := 48) (by rw [e]; rfl) (by omega)
        have hst' := stuffTo_succ a0 pos hp (b := 48) (by rw [e]; rfl)
        rw [hst.out] at hst'
        have HIT := Lib.hid hit
        clear e hbit hit
        by_cases c1 : 48 = last
        · subst c1
          by_cases c2 : run = 4
          · subst c2
            have HS := Aside0.mk (show StuffAt a0 (pos + 1) (out ++ [48] ++ [49]) 1 49 from ⟨hst'⟩)
            clear hst' hst
            go_wp2_with (first | (at_builtin; refine Kd.R_append (Kd.int .u8) (w0 := w) w.heap.size rfl (.tmp 28) (.tmp 31) 22 5 (.int .u8 0) 1 rfl Try.underlying22 infoU8 rfl (by decide) (by omega) _ out 48 [.int .u8 48] (fun _ => True) (fun _ => False) rfl rfl ?aP (fun _ hk => hk.elim) ?aF ?aO ?aB ?aS ?aL ?_; (case aP => exact rfl); (case aF => exact fun _ _ => trivial); (case aO => exact R_iterAt HO.out HIT.out (pos + 1)); (case aB => exact (Lib.below_iterAt HW.out HSZ.out a0 (pos + 1))); (case aS => exact (Lib.below_iterAt HW.out HSZ.out a0 (pos + 1)).size); (case aL => simp; omega); intro v1 wA ho1 hb1 hg1 hat1; have HO1 := Aside0.mk ho1; have HW1 := Aside0.mk hb1; have HIT1 := Lib.hid (iter_grown (R_iterAt HO.out HIT.out (pos + 1)) hg1 (Lib.iterAt_heap _ _ a0 pos (pos + 1) HIT.out)); clear ho1 hb1 hg1 hat1) | (at_builtin; refine Kd.R_append (Kd.int .u8) (w0 := w) w.heap.size rfl (.tmp 37) (.tmp 40) 22 5 (.int .u8 0) 1 rfl Try.underlying22 infoU8 rfl (by decide) (by omega) _ (out ++ [48]) 49 [.int .u8 49] (fun _ => True) (fun _ => False) rfl rfl ?aP (fun _ hk => hk.elim) ?aF ?aO ?aB ?aS ?aL ?_; (case aP => exact rfl); (case aF => exact fun _ _ => trivial); (case aO => exact HO1.out); (case aB => exact HW1.out); (case aS => exact HW1.out.size); (case aL => simp; omega); intro v2 wB ho2 hb2 hg2 hat2; have HO2' := Aside0.mk ho2; have HW2 := Aside0.mk hb2; have HIT2 := Lib.hid (iter_grown HO1.out hg2 HIT1.out); clear ho2 hb2 hg2 hat2))
            go_roundw
            case rel => exact ⟨pos + 1, _, _, _, HS.out, HIT2.out, HO2', HW2, rfl, rfl⟩
            case measure => rw [iterPos_at HIT2.out, iterPos_at HIT.out]; omega
          · have HS := Aside0.mk (show StuffAt a0 (pos + 1) (out ++ [48]) (run + 1) 48 from ⟨hst'.trans (if_neg (by simp; omega))⟩)
            have c3 : ((run + 1 : Int) == 5) = false := by rw [beq_eq_false_iff_ne]; omega
            clear hst' hst c2
            go_wp2_with (first | (at_builtin; refine Kd.R_append (Kd.int .u8) (w0 := w) w.heap.size rfl (.tmp 28) (.tmp 31) 22 5 (.int .u8 0) 1 rfl Try.underlying22 infoU8 rfl (by decide) (by omega) _ out 48 [.int .u8 48] (fun _ => True) (fun _ => False) rfl rfl ?aP (fun _ hk => hk.elim) ?aF ?aO ?aB ?aS ?aL ?_; (case aP => exact rfl); (case aF => exact fun _ _ => trivial); (case aO => exact R_iterAt HO.out HIT.out (pos + 1)); (case aB => exact (Lib.below_iterAt HW.out HSZ.out a0 (pos + 1))); (case aS => exact (Lib.below_iterAt HW.out HSZ.out a0 (pos + 1)).size); (case aL => simp; omega); intro v1 wA ho1 hb1 hg1 hat1; have HO1 := Aside0.mk ho1; have HW1 := Aside0.mk hb1; have HIT1 := Lib.hid (iter_grown (R_iterAt HO.out HIT.out (pos + 1)) hg1 (Lib.iterAt_heap _ _ a0 pos (pos + 1) HIT.out)); clear ho1 hb1 hg1 hat1))
            go_roundw
            case rel => exact ⟨pos + 1, _, _, _, HS.out, HIT1.out, HO1, HW1, rfl, rfl⟩
            case measure => rw [iterPos_at HIT1.out, iterPos_at HIT.out]; omega
        · have HS := Aside0.mk (show StuffAt a0 (pos + 1) (out ++ [48]) 1 48 from ⟨by rw [hst']; unfold stuffStep; simp only []; rw [if_neg (show ¬ ((48 : Nat) : Int) = last from c1), if_neg (by decide)]; rfl⟩)
          have c3 : ((48 : Int) == last) = false := by rw [beq_eq_false_iff_ne]; exact c1
          clear hst' hst c1
          go_wp2_with (first | (at_builtin; refine Kd.R_append (Kd.int .u8) (w0 := w) w.heap.size rfl (.tmp 28) (.tmp 31) 22 5 (.int .u8 0) 1 rfl Try.underlying22 infoU8 rfl (by decide) (by omega) _ out 48 [.int .u8 48] (fun _ => True) (fun _ => False) rfl rfl ?aP (fun _ hk => hk.elim) ?aF ?aO ?aB ?aS ?aL ?_; (case aP => exact rfl); (case aF => exact fun _ _ => trivial); (case aO => exact R_iterAt HO.out HIT.out (pos + 1)); (case aB => exact (Lib.below_iterAt HW.out HSZ.out a0 (pos + 1))); (case aS => exact (Lib.below_iterAt HW.out HSZ.out a0 (pos + 1)).size); (case aL => simp; omega); intro v1 wA ho1 hb1 hg1 hat1; have HO1 := Aside0.mk ho1; have HW1 := Aside0.mk hb1; have HIT1 := Lib.hid (iter_grown (R_iterAt HO.out HIT.out (pos + 1)) hg1 (Lib.iterAt_heap _ _ a0 pos (pos + 1) HIT.out)); clear ho1 hb1 hg1 hat1))
          go_roundw
          case rel => exact ⟨pos + 1, _, _, _, HS.out, HIT1.out, HO1, HW1, rfl, rfl⟩
          case measure => rw [iterPos_at HIT1.out, iterPos_at HIT.out]; omega
      · have hnx := fun ty => next_bit_at (P := Try.prog) _ _ a0 pos ty hit hp (b := 49) (by rw [e]; rfl) (by omega)
        have hst' := stuffTo_succ a0 pos hp (b := 49) (by rw [e]; rfl)
        rw [hst.out] at hst'
        have HIT := Lib.hid hit
        clear e hbit hit
        by_cases c1 : 49 = last
        · subst c1
          by_cases c2 : run = 4
          · subst c2
            have HS := Aside0.mk (show StuffAt a0 (pos + 1) (out ++ [49] ++ [48]) 1 48 from ⟨hst'⟩)
            clear hst' hst
            go_wp2_with (first | (at_builtin; refine Kd.R_append (Kd.int .u8) (w0 := w) w.heap.size rfl (.tmp 28) (.tmp 31) 22 5 (.int .u8 0) 1 rfl Try.underlying22 infoU8 rfl (by decide) (by omega) _ out 49 [.int .u8 49] (fun _ => True) (fun _ => False) rfl rfl ?aP (fun _ hk => hk.elim) ?aF ?aO ?aB ?aS ?aL ?_; (case aP => exact rfl); (case aF => exact fun _ _ => trivial); (case aO => exact R_iterAt HO.out HIT.out (pos + 1)); (case aB => exact (Lib.below_iterAt HW.out HSZ.out a0 (pos + 1))); (case aS => exact (Lib.below_iterAt HW.out HSZ.out a0 (pos + 1)).size); (case aL => simp; omega); intro v1 wA ho1 hb1 hg1 hat1; have HO1 := Aside0.mk ho1; have HW1 := Aside0.mk hb1; have HIT1 := Lib.hid (iter_grown (R_iterAt HO.out HIT.out (pos + 1)) hg1 (Lib.iterAt_heap _ _ a0 pos (pos + 1) HIT.out)); clear ho1 hb1 hg1 hat1) | (at_builtin; refine Kd.R_append (Kd.int .u8) (w0 := w) w.heap.size rfl (.tmp 37) (.tmp 40) 22 5 (.int .u8 0) 1 rfl Try.underlying22 infoU8 rfl (by decide) (by omega) _ (out ++ [49]) 48 [.int .u8 48] (fun _ => True) (fun _ => False) rfl rfl ?aP (fun _ hk => hk.elim) ?aF ?aO ?aB ?aS ?aL ?_; (case aP => exact rfl); (case aF => exact fun _ _ => trivial); (case aO => exact HO1.out); (case aB => exact HW1.out); (case aS => exact HW1.out.size); (case aL => simp; omega); intro v2 wB ho2 hb2 hg2 hat2; have HO2' := Aside0.mk ho2; have HW2 := Aside0.mk hb2; have HIT2 := Lib.hid (iter_grown HO1.out hg2 HIT1.out); clear ho2 hb2 hg2 hat2))
            go_roundw
            case rel => exact ⟨pos + 1, _, _, _, HS.out, HIT2.out, HO2', HW2, rfl, rfl⟩
            case measure => rw [iterPos_at HIT2.out, iterPos_at HIT.out]; omega
          · have HS := Aside0.mk (show StuffAt a0 (pos + 1) (out ++ [49]) (run + 1) 49 from ⟨hst'.trans (if_neg (by simp; omega))⟩)
            have c3 : ((run + 1 : Int) == 5) = false := by rw [beq_eq_false_iff_ne]; omega
            clear hst' hst c2
            go_wp2_with (first | (at_builtin; refine Kd.R_append (Kd.int .u8) (w0 := w) w.heap.size rfl (.tmp 28) (.tmp 31) 22 5 (.int .u8 0) 1 rfl Try.underlying22 infoU8 rfl (by decide) (by omega) _ out 49 [.int .u8 49] (fun _ => True) (fun _ => False) rfl rfl ?aP (fun _ hk => hk.elim) ?aF ?aO ?aB ?aS ?aL ?_; (case aP => exact rfl); (case aF => exact fun _ _ => trivial); (case aO => exact R_iterAt HO.out HIT.out (pos + 1)); (case aB => exact (Lib.below_iterAt HW.out HSZ.out a0 (pos + 1))); (case aS => exact (Lib.below_iterAt HW.out HSZ.out a0 (pos + 1)).size); (case aL => simp; omega); intro v1 wA ho1 hb1 hg1 hat1; have HO1 := Aside0.mk ho1; have HW1 := Aside0.mk hb1; have HIT1 := Lib.hid (iter_grown (R_iterAt HO.out HIT.out (pos + 1)) hg1 (Lib.iterAt_heap _ _ a0 pos (pos + 1) HIT.out)); clear ho1 hb1 hg1 hat1))
            go_roundw
            case rel => exact ⟨pos + 1, _, _, _, HS.out, HIT1.out, HO1, HW1, rfl, rfl⟩
            case measure => rw [iterPos_at HIT1.out, iterPos_at HIT.out]; omega
        · have HS := Aside0.mk (show StuffAt a0 (pos + 1) (out ++ [49]) 1 49 from ⟨by rw [hst']; unfold stuffStep; simp only []; rw [if_neg (show ¬ ((49 : Nat) : Int) = last from c1), if_neg (by decide)]; rfl⟩)
          have c3 : ((49 : Int) == last) = false := by rw [beq_eq_false_iff_ne]; exact c1
          clear hst' hst c1
          go_wp2_with (first | (at_builtin; refine Kd.R_append (Kd.int .u8) (w0 := w) w.heap.size rfl (.tmp 28) (.tmp 31) 22 5 (.int .u8 0) 1 rfl Try.underlying22 infoU8 rfl (by decide) (by omega) _ out 49 [.int .u8 49] (fun _ => True) (fun _ => False) rfl rfl ?aP (fun _ hk => hk.elim) ?aF ?aO ?aB ?aS ?aL ?_; (case aP => exact rfl); (case aF => exact fun _ _ => trivial); (case aO => exact R_iterAt HO.out HIT.out (pos + 1)); (case aB => exact (Lib.below_iterAt HW.out HSZ.out a0 (pos + 1))); (case aS => exact (Lib.below_iterAt HW.out HSZ.out a0 (pos + 1)).size); (case aL => simp; omega); intro v1 wA ho1 hb1 hg1 hat1; have HO1 := Aside0.mk ho1; have HW1 := Aside0.mk hb1; have HIT1 := Lib.hid (iter_grown (R_iterAt HO.out HIT.out (pos + 1)) hg1 (Lib.iterAt_heap _ _ a0 pos (pos + 1) HIT.out)); clear ho1 hb1 hg1 hat1))
          go_roundw
          case rel => exact ⟨pos + 1, _, _, _, HS.out, HIT1.out, HO1, HW1, rfl, rfl⟩
          case measure => rw [iterPos_at HIT1.out, iterPos_at HIT.out]; omega
    · have hnx := fun ty => Lib.run_next_end_at (P := Try.prog) _ _ a0 pos ty hit hp
      have hcv := own_string (P := Try.prog) Try.underlying22 Try.underlying5 Try.underlying9 (Kd.own_of_R HO.out)
      go_wp2
      go_ret
      exact ⟨by rw [← stuffTo_end a0 pos hp, hst.out]; rfl, HW.out⟩
theorem impl_Stuff.calls (a0 : ByteArray) (r : ByteArray) (w : World) (h : impl_Stuff.f a0 = some r) :
    Calls Try.prog 20 #[.string a0] w fun e w' => e = .returned (.string r) ∧ Below w.heap.size w w' := by
  by_cases c : a0.size ≤ 2000 ∧ isBits a0 = true
  · obtain rfl : r = strOfNums (stuffL (bytesOf a0)) := (Option.some.inj h).symm.trans (if_pos c)
    exact impl_Stuff.yes a0 w c.1 c.2
  · obtain rfl : r = ⟨#[]⟩ := (Option.some.inj h).symm.trans (if_neg c)
    clear h
    have hbt : Hid (impl_bitText.f a0 2000 = some false) := by
      refine Lib.hid ?_
      unfold impl_bitText.f
      congr 1
      rw [Bool.and_eq_false_iff]
      by_cases h : isBits a0 = true
      · exact .inl (decide_eq_false fun h2 => c ⟨by omega, h⟩)
      · exact .inr (by simpa using h)
    clear c
    go_enter Try.func20, Try.ntmps20
    go_wp2_with (go_at_call 77; refine (impl_bitText.calls _ _ false _ hbt.out).mono ?_; rintro e w1 ⟨rfl, hb1⟩)
    go_ret
    exact ⟨rfl, hb1⟩

end Go.Proofs.Ytdoclpgciadjaaa.P

namespace Go.Proofs.Ytdoclpgciadjaaa.P
open Go.RowKit Go.Proofs.YtdoclpgciadjaaaW.PrintWords Go.Proofs.YtdoclpgciadjaaaW.PrintLast Go.Proofs.YtdoclpgciadjaaaW.PrintMore
attribute [local go_sem] max2_int min2_int max_two min_two max_three min_three max_four min_four
set_option linter.unusedVariables false
set_option linter.unusedSimpArgs false

-- GIVEN rounds=0 making=1 import=Derived.Test.YtdoclpgciadjaaaText
/-! ### impl_Encode: function 28 -/
def encodeV (ext : Bool) (id : Int) (rtr : Bool) (dlc : Int) (data : List Int) : ByteArray := if validF ext id rtr dlc data.length = true then strOfNums (stuffL (plainL ext id rtr dlc data) ++ onesL) else ⟨#[]⟩
def impl_Encode.f (a0_0 : Bool) (a0_1 : Int) (a0_2 : Bool) (a0_3 : Int) (l0_4 : List Int) : Option (ByteArray) := if 0 ≤ a0_1 ∧ okBytes l0_4 = true then some (encodeV a0_0 a0_1 a0_2 a0_3 l0_4) else none
theorem stuff_str {l : List Int} (h : Bits l) (hl : l.length ≤ 2000) : impl_Stuff.f (strOfNums l) = some (strOfNums (stuffL l)) := by
  unfold impl_Stuff.f
  rw [if_pos ⟨by rw [strOfNums_size]; exact hl, isBits_str h⟩, bytes_str l h.range]
theorem crc15_str {l : List Int} (h : Bits l) (hl : l.length ≤ 2000) : impl_Crc15.f (strOfNums l) = some (crcL l : Int) := by
  unfold impl_Crc15.f
  rw [if_pos ⟨by rw [strOfNums_size]; exact hl, isBits_str h⟩, crcOf_str h]
theorem body_str {ext : Bool} {id : Int} {rtr : Bool} {dlc : Int} {l : List Int} (h0 : 0 ≤ id) (hb : okBytes l = true) (hv : validF ext id rtr dlc l.length = true) : impl_Body.f ext id rtr dlc l = some (strOfNums (bodyL ext id rtr dlc l)) := by
  unfold impl_Body.f bodyV
  rw [if_pos ⟨h0, hb⟩, if_pos hv]
theorem stuffL_len (l : List Int) : (stuffL l).length ≤ 2 * l.length := by
  unfold stuffL
  have key : ∀ (l : List Int) (st : List Int × Int × Int), (l.foldl stuffStep st).1.length ≤ st.1.length + 2 * l.length := by
    intro l
    induction l with
    | nil => intro st; simp
    | cons c l ih =>
      intro st
      have h1 : (stuffStep st c).1.length ≤ st.1.length + 2 := by
        unfold stuffStep
        generalize (if c = st.2.2 then st.2.1 + 1 else 1) = q
        split <;> simp
      have := ih (stuffStep st c)
      rw [List.foldl_cons, List.length_cons]
      omega
  have := key l ([], 0, 120)
  simpa using this
set_option maxHeartbeats 4000000 in
theorem impl_Encode.yes (ext : Bool) (id : Int) (rtr : Bool) (dlc : Int) (A : Option Addr) (c : Nat) (l : List Int) (w : World) (hr : Kd.C (Kd.int .u8) w A l.length l) (hc : l.length ≤ c) (h0 : 0 ≤ id) (hb : okBytes l = true) (hv : validF ext id rtr dlc l.length = true) :
    Calls Try.prog 28 #[.agg #[.bool ext, .int .u32 id, .bool rtr, .int .i64 dlc, .slice A l.length c]] w fun e w' => e = .returned (.string (strOfNums (stuffL (plainL ext id rtr dlc l) ++ onesL))) ∧ Below w.heap.size w w' := by
  have HV : Hid (impl_ValidFrame.f ext id rtr dlc l = some true) := Lib.hid (by unfold impl_ValidFrame.f; rw [hv])
  have HBD := Lib.hid (body_str h0 hb hv)
  have HR := Lib.hid hr
  have HC := Lib.hid hc
  obtain ⟨-, -, -, -, hn8⟩ := valid_parts hv
  obtain ⟨B, hB⟩ : ∃ B, bodyL ext id rtr dlc l = B := ⟨_, rfl⟩
  have HBB : Hid (Bits B ∧ B.length ≤ 103) := Lib.hid (hB ▸ ⟨bodyL_bits ext id rtr dlc l, bodyL_length ext id rtr dlc l hn8⟩)
  have HPL : Hid (plainL ext id rtr dlc l = B ++ numL (crcL B) 15) := Lib.hid (by unfold plainL; rw [hB])
  have HPB : Hid (Bits (B ++ numL (crcL B) 15) ∧ (B ++ numL (crcL B) 15).length ≤ 118) := Lib.hid (HPL.out ▸ ⟨plainL_bits ext id rtr dlc l, plainL_length ext id rtr dlc l hn8⟩)
  rw [hB] at HBD
  have HM8 : Hid (l.length ≤ 9223372036854775807) := Lib.hid hr.2.1
  clear hv hr hc hb hn8 h0 hB
  go_enter Try.func28, Try.ntmps28
  go_wp2_with (fail)
  (refine (impl_ValidFrame.calls ext id rtr dlc A c l true _ (Kd.C_below HR.out ((Below.refl _ _).alloc (Nat.le_refl _) _)) HC.out HV.out).mono ?_; rintro e w1 ⟨rfl, hb1⟩; have HB1 := Lib.hid hb1; clear hb1; have HBOX := Lib.hid (blk_below (blk_new w _) HB1.out); have hc0 := blk_cell HBOX.out 0; have hc1 := blk_cell HBOX.out 1; have hc2 := blk_cell HBOX.out 2; have hc3 := blk_cell HBOX.out 3; have hc4 := blk_cell HBOX.out 4; simp only [box5_0, box5_1, box5_2, box5_3, box5_4] at hc0 hc1 hc2 hc3 hc4)
  go_wp2_with (fail)
  (refine (impl_Body.calls ext id rtr dlc A c l _ _ (Kd.C_below (Kd.C_below HR.out ((Below.refl _ _).alloc (Nat.le_refl _) _)) HB1.out) HC.out HBD.out).mono ?_; rintro e w2 ⟨rfl, hb2⟩; have HB2 := Lib.hid hb2; clear hb2 hc0 hc1 hc2 hc3 hc4; have hcv0 := Lib.run_convert_string_bytes (P := Try.prog) w2 9 107 5 (strOfNums B) Try.underlying9 Try.underlying107 Try.underlying5)
  go_wp2_with (fail)
  (refine (impl_Crc15.calls _ (crcL B : Int) _ (crc15_str HBB.out.1 (by have := HBB.out.2; omega))).mono ?_; rintro e w3 ⟨rfl, hb3⟩)
  have HZ : Hid (w.heap.size ≤ w1.heap.size ∧ w1.heap.size ≤ w2.heap.size ∧ (Lib.bytesWorld w2 5 (strOfNums B)).heap.size = w2.heap.size + 1) := Lib.hid ⟨by have := HB1.out.size; simp at this; omega, HB2.out.size, Lib.bytesWorld_size _ _ _⟩
  obtain ⟨p, hp⟩ : ∃ p, p = (Lib.bytesWorld w2 5 (strOfNums B)).heap.size := ⟨_, rfl⟩
  have HP := Lib.hid hp
  have HQ1 : Hid (w3.heap[p]? = some (.cells #[.slice (some ⟨w2.heap.size, 0, none⟩) (strOfNums B).size (grownCap w2 (strOfNums B).size 0 5)] 107 (0, 0))) := Lib.hid (by rw [hp]; exact blk_below (blk_new _ _) hb3)
  have HQ2 : Hid (RowM 5 w3 w.heap.size (.slice (some ⟨w2.heap.size, 0, none⟩) (strOfNums B).size (grownCap w2 (strOfNums B).size 0 5)) B) := Lib.hid (by
    have h := RowM.bytes w2 5 (strOfNums B) w.heap.size (by have := HZ.out; omega) (by rw [strOfNums_size]; have := HBB.out.2; unfold maxLen; omega)
    rw [bytes_str B HBB.out.1.range] at h
    refine h.move fun k hk => ?_
    have hk2 := (h.typed hk).2.1
    rw [hb3.block k (by simp; omega), Below.heap_alloc _ _ _ hk2])
  have HQ3 : Hid (Below w.heap.size w w3) := Lib.hid (by
    have h1 : Below w.heap.size w w1 := Below.trans ((Below.refl _ _).alloc (Nat.le_refl _) _) (HB1.out.mono (by simp))
    have h2 : Below w.heap.size w w2 := h1.trans (HB2.out.mono HZ.out.1)
    refine ((below_bytes h2 (by have := HZ.out; omega) _ _).alloc (by have := HZ.out; omega) _).trans (hb3.mono (by simp; have := HZ.out; omega)))
  rw [← hp]
  clear hb3 hp hcv0 HB1 HB2 HBOX
  go_wp2_with (fail)
  ((with_reducible refine (impl_letters_number.at _ 15 _ _ _ (crcL B) 15 w.heap.size _ HQ1.out HQ2.out HQ3.out.size ?hx ?hu rfl (by omega) ?hl).mono ?_); (case hx => have := crcL_lt B; first | (rw [IntKind.wrap_u32]; omega) | omega); (case hu => have := crcL_lt B; omega); (case hl => have := HBB.out.2; omega); rintro e w4 ⟨rfl, v', hq1, hq2, hq3⟩; have HB4 := Lib.hid (hq3.below HQ3.out HQ3.out.size (by have := HP.out; have := HZ.out; omega) (fun k hk => (HQ2.out.typed hk).1)); have HQ4 := Lib.hid hq1; have HQ5 := Lib.hid hq2; clear hq1 hq2 hq3; have hptr := blk_cell HQ4.out 0; simp only [box1_0] at hptr; have hcv := RowM.string (P := Try.prog) Try.underlying107 Try.underlying5 Try.underlying9 HQ5.out)
  go_wp2_with (fail)
  (refine (impl_Stuff.calls _ _ _ (stuff_str HPB.out.1 (by have := HPB.out.2; omega))).mono ?_; rintro e w5 ⟨rfl, hb5⟩; have HB5 := Lib.hid hb5; clear hb5)
  have hsz : (strOfNums (stuffL (B ++ numL (crcL B) 15))).size ≤ 236 := by rw [strOfNums_size]; have h1 := stuffL_len (B ++ numL (crcL B) 15); have := HPB.out.2; omega
  go_wp2_with (fail)
  go_ret
  exact ⟨by rw [HPL.out, str_append (stuffL _) onesL]; rfl, HB4.out.trans (HB5.out.mono HB4.out.size)⟩
theorem impl_Encode.calls (a0_0 : Bool) (a0_1 : Int) (a0_2 : Bool) (a0_3 : Int) (A0_4 : Option Addr) (c0_4 : Nat) (l0_4 : List Int) (r : ByteArray) (w : World) (hr0_4 : Kd.C (Kd.int .u8) w A0_4 l0_4.length l0_4) (hc0_4 : l0_4.length ≤ c0_4) (h : impl_Encode.f a0_0 a0_1 a0_2 a0_3 l0_4 = some r) :
    Calls Try.prog 28 #[.agg #[.bool a0_0, .int .u32 a0_1, .bool a0_2, .int .i64 a0_3, .slice A0_4 l0_4.length c0_4]] w fun e w' => e = .returned (.string r) ∧ Below w.heap.size w w' := by
  unfold impl_Encode.f at h
  by_cases c : 0 ≤ a0_1 ∧ okBytes l0_4 = true
  · rw [if_pos c] at h
    have hr := (Option.some.inj h).symm
    unfold encodeV at hr
    cases hv : validF a0_0 a0_1 a0_2 a0_3 l0_4.length with
    | true =>
      rw [hv, if_pos rfl] at hr
      subst hr
      exact impl_Encode.yes a0_0 a0_1 a0_2 a0_3 A0_4 c0_4 l0_4 w hr0_4 hc0_4 c.1 c.2 hv
    | false =>
      rw [hv] at hr
      subst hr
      have HV : Hid (impl_ValidFrame.f a0_0 a0_1 a0_2 a0_3 l0_4 = some false) := Lib.hid (by unfold impl_ValidFrame.f; rw [hv])
      have HR := Lib.hid hr0_4
      have HC := Lib.hid hc0_4
      have HM8 : Hid (l0_4.length ≤ 9223372036854775807) := Lib.hid hr0_4.2.1
      clear hr0_4 hc0_4 hv c h
      go_enter Try.func28, Try.ntmps28
      go_wp2_with (fail)
      (refine (impl_ValidFrame.calls a0_0 a0_1 a0_2 a0_3 A0_4 c0_4 l0_4 false _ (Kd.C_below HR.out ((Below.refl _ _).alloc (Nat.le_refl _) _)) HC.out HV.out).mono ?_; rintro e w1 ⟨rfl, hb1⟩; have HB1 : Hid (Below w.heap.size w w1) := Lib.hid (Below.trans ((Below.refl _ _).alloc (Nat.le_refl _) _) (hb1.mono (by simp))); clear hb1)
      go_wp2_with (fail)
      go_ret
      exact ⟨rfl, HB1.out⟩
  · rw [if_neg c] at h
    cases h

end Go.Proofs.Ytdoclpgciadjaaa.P

namespace Go.Proofs.Ytdoclpgciadjaaa.P
open Go.RowKit Go.Proofs.YtdoclpgciadjaaaW.PrintWords Go.Proofs.YtdoclpgciadjaaaW.PrintLast Go.Proofs.YtdoclpgciadjaaaW.PrintMore
attribute [local go_sem] max2_int min2_int max_two min_two max_three min_three max_four min_four
set_option linter.unusedVariables false
set_option linter.unusedSimpArgs false

-- GIVEN rounds=0 making=1 import=Derived.Test.YtdoclpgciadjaaaRow8
/-! ### impl_packer_bit: function 140 -/
def packRow (ws : List Int) (n : Nat) : List Int := if n % 64 = 0 then ws ++ [0] else ws
theorem box2_0 {v0 v1 : Value} : (#[v0, v1] : Array Value)[0]? = some v0 := rfl
theorem box2_1 {v0 v1 : Value} : (#[v0, v1] : Array Value)[1]? = some v1 := rfl
theorem infoU64 : (Try.prog.info? 170).map (fun i => (i.zero, i.size, i.bytes)) = some (some (.int .u64 0), 1, 8) := by kernel_rfl
/-- What is known when a word has been put behind the row. -/
structure PkAt (w0 w w1 : World) (S : Nat → Prop) (p n : Nat) (ws ws1 : List Int) (g c1 : Nat) (v1 : Value) : Prop where
  row : Kd.R (Kd.int .u64) 170 w1 w0.heap.size S (.slice (some ⟨g, 0, none⟩) ws1.length c1) ws1
  ptr : w1.heap[p]? = some (.cells #[.int .i64 n, v1] 178 (0, 0))
  below : Below w0.heap.size w0 w1
  kept : Kept w w1 (fun k => k = p ∨ S k)
  len : ws1.length = n / 64 + 1
  words : ws1 = packRow ws n
  own : S g
theorem pk_append {w0 w w1 : World} {S : Nat → Prop} {p n : Nat} {ws : List Int} {v v1 : Value} (hp : w.heap[p]? = some (.cells #[.int .i64 n, v] 178 (0, 0))) (hv : Kd.R (Kd.int .u64) 170 w w0.heap.size S v ws) (hS : ¬ S p) (hl : ws.length = (n + 63) / 64) (c : n % 64 = 0)
    (ho : Kd.R (Kd.int .u64) 170 w1 w0.heap.size S v1 (ws ++ [0])) (hb : Below w0.heap.size w0 w1) (hg : w.grownBy w1 v.ownBlock) : ∃ (g c1 : Nat) (ws1 : List Int), v1 = .slice (some ⟨g, 0, none⟩) ws1.length c1 ∧ PkAt w0 w w1 S p n ws ws1 g c1 v := by
  obtain ⟨g, c1, e1, -, -, -, -⟩ := Kd.R_form ho (by simp)
  subst e1
  exact ⟨g, c1, ws ++ [0], rfl, ho, blk_grown hp hg (fun e => hS (hv.1 p e.symm)), hb, Kept.of_grown hg (Kept.refl _ _) (fun k hk => .inl (.inr (hv.1 k hk))), by rw [List.length_append]; simp; omega, by unfold packRow; rw [if_pos c], ho.1 g rfl⟩
theorem pk_same {w0 w : World} {S : Nat → Prop} {p n : Nat} {ws : List Int} {v : Value} (hp : w.heap[p]? = some (.cells #[.int .i64 n, v] 178 (0, 0))) (hv : Kd.R (Kd.int .u64) 170 w w0.heap.size S v ws) (hB : Below w0.heap.size w0 w) (hl : ws.length = (n + 63) / 64) (c : ¬ n % 64 = 0) : ∃ (g c1 : Nat), v = .slice (some ⟨g, 0, none⟩) ws.length c1 ∧ PkAt w0 w w S p n ws ws g c1 v := by
  obtain ⟨g, c1, e1, -, -, -, -⟩ := Kd.R_form hv (by omega)
  subst e1
  exact ⟨g, c1, rfl, hv, hp, hB, Kept.refl _ _, by omega, by unfold packRow; rw [if_neg c], hv.1 g rfl⟩
/-- The facts that the walk reads. -/
theorem PkAt.facts {w0 w w1 : World} {S : Nat → Prop} {p n : Nat} {ws ws1 : List Int} {g c1 : Nat} {v1 : Value} (h : PkAt w0 w w1 S p n ws ws1 g c1 v1) (hS : ¬ S p) :
    g ≠ p ∧ p ≠ g ∧ ((0 ≤ (n : Int) / 64) = True) ∧ (((n : Int) / 64 < (ws1.length : Int)) = True) ∧ w1.cell? ⟨g, n / 64, none⟩ = some (.int .u64 (rd ws1 ((n / 64 : Nat) : Int))) ∧ w1.frozen? ⟨g, n / 64, none⟩ = false ∧ w1.cell? ⟨p, 0, none⟩ = some (.int .i64 n) ∧ w1.cell? ⟨p, 1, none⟩ = some v1 ∧ w1.frozen? ⟨p, 0, none⟩ = false ∧ w1.frozen? ⟨p, 1, none⟩ = false := by
  have hgp : g ≠ p := fun e => hS (e ▸ h.own)
  have p5 : 0 ≤ (n : Int) / 64 := by omega
  have q5 : (n : Int) / 64 < (ws1.length : Int) := by have := h.len; omega
  obtain ⟨hx, hf⟩ := Kd.R_celln 0 h.row ((n / 64 : Nat) : Int) (by omega) (by omega)
  rw [Int.toNat_natCast] at hx hf
  exact ⟨hgp, fun e => hgp e.symm, eq_true p5, eq_true q5, hx, hf, blk_cell h.ptr 0, blk_cell h.ptr 1, blk_frozen h.ptr 0, blk_frozen h.ptr 1⟩
/-- What a bit makes of the row. -/
def packBit (ws : List Int) (n : Nat) (b : Int) : List Int := (packRow ws n).set (n / 64) (Go.bits .or .u64 (rd (packRow ws n) ((n / 64 : Nat) : Int)) (IntKind.u64.wrap (b * 2 ^ (63 - n % 64))))
theorem pk_mid {w0 w w1 : World} {S : Nat → Prop} {p n : Nat} {ws ws1 : List Int} {g c1 : Nat} {v1 V : Value} (h : PkAt w0 w w1 S p n ws ws1 g c1 v1) (hS : ¬ S p) (hpl : w0.heap.size ≤ p) : PkAt w0 w (w1.setCell ⟨p, 1, none⟩ V) S p n ws ws1 g c1 V := by
  refine ⟨Kd.R_step h.row (fun k hk _ => Below.heap_setCell _ _ _ k (fun e => hS ((show k = p from e) ▸ hk))), ?_, h.below.setCell hpl _, h.kept.setCell (.inl (.inl rfl)) _, h.len, h.words, h.own⟩
  simp only [World.setCell, Array.getElem?_modify, h.ptr]
  simp
theorem pk_end {w0 w w1 : World} {S : Nat → Prop} {p n : Nat} {ws ws1 : List Int} {g c1 : Nat} (x m : Int) (h : PkAt w0 w w1 S p n ws ws1 g c1 (.slice (some ⟨g, 0, none⟩) ws1.length c1)) (hS : ¬ S p) (hpl : w0.heap.size ≤ p) :
    ∃ v', ((w1.setCell ⟨g, n / 64, none⟩ (.int .u64 x)).setCell ⟨p, 0, none⟩ (.int .i64 m)).heap[p]? = some (.cells #[.int .i64 m, v'] 178 (0, 0)) ∧ Kd.R (Kd.int .u64) 170 ((w1.setCell ⟨g, n / 64, none⟩ (.int .u64 x)).setCell ⟨p, 0, none⟩ (.int .i64 m)) w0.heap.size S v' (ws1.set (n / 64) x) ∧ Below w0.heap.size w0 ((w1.setCell ⟨g, n / 64, none⟩ (.int .u64 x)).setCell ⟨p, 0, none⟩ (.int .i64 m)) ∧ Kept w ((w1.setCell ⟨g, n / 64, none⟩ (.int .u64 x)).setCell ⟨p, 0, none⟩ (.int .i64 m)) (fun k => k = p ∨ S k) := by
  obtain ⟨h1, h2⟩ := Kd.R_putg h.row ((n / 64 : Nat) : Int) x
  rw [Int.toNat_natCast] at h1 h2
  obtain ⟨_, c2, e2, hgb, -, -, -⟩ := Kd.R_form h.row (by have := h.len; omega)
  injection e2 with e2 _ _
  injection e2 with e2
  injection e2 with e2 _ _
  subst e2
  have hp2 := blk_grown h.ptr h2 (fun e => hS (by injection e with e; exact e ▸ h.own))
  have hb3 := h.below.setCell (p := ⟨g, n / 64, none⟩) hgb (.int .u64 x)
  have hk3 := Kept.of_grown h2 h.kept (fun k hk => by injection hk with hk; exact .inl (.inr (hk ▸ h.own)))
  clear h2
  generalize w1.setCell ⟨g, n / 64, none⟩ (.int .u64 x) = W2 at h1 hp2 hb3 hk3 ⊢
  refine ⟨_, ?_, Kd.R_step h1 (fun k hk _ => Below.heap_setCell _ _ _ k (fun e => hS ((show k = p from e) ▸ hk))), ?_, hk3.setCell (.inl (.inl rfl)) _⟩
  · simp only [World.setCell, Array.getElem?_modify, hp2]
    simp
  · exact hb3.setCell hpl _
set_option maxHeartbeats 4000000 in
theorem impl_packer_bit.calls (p : Nat) (v : Value) (ws : List Int) (n : Nat) (b : Int) (S : Nat → Prop) (w0 w : World) (hp : w.heap[p]? = some (.cells #[.int .i64 n, v] 178 (0, 0))) (hv : Kd.R (Kd.int .u64) 170 w w0.heap.size S v ws) (hB : Below w0.heap.size w0 w) (hpl : w0.heap.size ≤ p) (hS : ¬ S p) (hF : ∀ k, w.heap.size ≤ k → S k) (hn : n < 10000) (hl : ws.length = (n + 63) / 64) :
    Calls Try.prog 140 #[.pointer (some ⟨p, 0, none⟩), .int .u64 b] w fun e w' => e = .returned (.tuple #[]) ∧ ∃ v', w'.heap[p]? = some (.cells #[.int .i64 ((n + 1 : Nat) : Int), v'] 178 (0, 0)) ∧ Kd.R (Kd.int .u64) 170 w' w0.heap.size S v' (packBit ws n b) ∧ Below w0.heap.size w0 w' ∧ Kept w w' (fun k => k = p ∨ S k) := by
  have HP := Lib.hid hp
  have HV := Lib.hid hv
  have HB := Lib.hid hB
  have hc0 := blk_cell hp 0
  have hc1 := blk_cell hp 1
  have hf0 := blk_frozen hp 0
  have hf1 := blk_frozen hp 1
  simp only [box2_0, box2_1] at hc0 hc1
  have HL := Lib.hid hl
  clear hp hv hB hl
  by_cases c : n % 64 = 0
  · have hm : (Int.tmod (n : Int) 64 == 0) = true := by rw [Int.tmod_eq_emod_of_nonneg (by omega)]; simp; omega
    go_enter Try.func140, Try.ntmps140
    go_wp2_with (first | (at_builtin; refine Kd.R_append (Kd.int .u64) (w0 := w0) w0.heap.size rfl (.tmp 18) (.tmp 19) 48 170 (.int .u64 0) 8 rfl Try.underlying48 infoU64 rfl (by decide) (by omega) v ws 0 [.int .u64 0] S (fun _ => False) rfl rfl ?aP (fun _ hk => hk.elim) hF ?aO ?aB ?aS ?aL ?_; (case aP => exact rfl); (case aO => exact HV.out); (case aB => exact HB.out); (case aS => exact HB.out.size); (case aL => have := HL.out; omega); intro v1 w1 ho hb hg hat; obtain ⟨g, c1, ws1, e1, hpk⟩ := pk_append HP.out HV.out hS HL.out c ho hb hg; subst e1; have HPK := Lib.hid hpk; clear ho hb hg hat hc0 hc1 hf0 hf1 hpk; obtain ⟨hgp, hpg, p5, q5, hx0, hfx0, hc0, hc1, hf0, hf1⟩ := PkAt.facts HPK.out hS))
    go_end0
    have hw : packBit ws n b = ws1.set (n / 64) (Go.bits .or .u64 (rd ws1 ((n / 64 : Nat) : Int)) (IntKind.u64.wrap (b * 9223372036854775808))) := by unfold packBit; rw [← HPK.out.words, c]; rfl
    rw [hw]
    exact ⟨rfl, pk_end _ _ (pk_mid HPK.out hS hpl) hS hpl⟩
  · have hm : (Int.tmod (n : Int) 64 == 0) = false := by rw [Int.tmod_eq_emod_of_nonneg (by omega)]; simp; omega
    have hm2 : ((n : Int) % 64 == 0) = false := by simp; omega
    obtain ⟨g, c1, e1, hpk⟩ := pk_same HP.out HV.out HB.out HL.out c
    subst e1
    have HPK := Lib.hid hpk
    clear hc0 hc1 hf0 hf1 hpk
    obtain ⟨hgp, hpg, p5, q5, hx0, hfx0, hc0, hc1, hf0, hf1⟩ := PkAt.facts HPK.out hS
    go_enter Try.func140, Try.ntmps140
    go_wp2_with (fail)
    go_end0
    have hw : packBit ws n b = ws.set (n / 64) (Go.bits .or .u64 (rd ws ((n / 64 : Nat) : Int)) (IntKind.u64.wrap (b * 2 ^ (63 - n % 64)))) := by unfold packBit; rw [← HPK.out.words]
    rw [hw]
    exact ⟨rfl, pk_end _ _ HPK.out hS hpl⟩

end Go.Proofs.Ytdoclpgciadjaaa.P

namespace Go.Proofs.Ytdoclpgciadjaaa.P
open Go.RowKit Go.Proofs.YtdoclpgciadjaaaW.PrintWords Go.Proofs.YtdoclpgciadjaaaW.PrintLast Go.Proofs.YtdoclpgciadjaaaW.PrintMore
attribute [local go_sem] max2_int min2_int max_two min_two max_three min_three max_four min_four
set_option linter.unusedVariables false
set_option linter.unusedSimpArgs false

-- GIVEN rounds=0 making=1 import=Derived.Test.YtdoclpgciadjaaaRow8
/-! ### impl_packer_finish: function 141 -/
theorem fbox2_0 {v0 v1 : Value} : (#[v0, v1] : Array Value)[0]? = some v0 := rfl
theorem fbox2_1 {v0 v1 : Value} : (#[v0, v1] : Array Value)[1]? = some v1 := rfl
theorem impl_packer_finish.calls (p : Nat) (n : Int) (A : Option Addr) (L c : Nat) (w : World) (hp : w.heap[p]? = some (.cells #[.int .i64 n, .slice A L c] 178 (0, 0))) :
    Calls Try.prog 141 #[.pointer (some ⟨p, 0, none⟩)] w fun e w' => e = .returned (.agg #[.int .i64 n, .slice A L c]) ∧ Below w.heap.size w w' := by
  have hu33 := Try.underlying50
  have hc0 := blk_cell hp 0
  have hc1 := blk_cell hp 1
  simp only [fbox2_0, fbox2_1] at hc0 hc1
  have hpl : p < w.heap.size := (Array.getElem?_eq_some_iff.1 hp).1
  have hpl2 : p ≠ w.heap.size := by omega
  clear hp
  go_enter Try.func141, Try.ntmps141
  go_wp2_with (fail)
  refine bodyPost_ret (results_cell_row rfl _ _ w.heap.size 50 #[.int .i64 n, .slice A L c] (0, 0) _ rfl (blk_new _ _) Try.underlying50 rfl (by kernel_rfl)) rfl ?_
  exact ⟨rfl, (Below.refl _ _).alloc (Nat.le_refl _) _⟩

end Go.Proofs.Ytdoclpgciadjaaa.P

namespace Go.Proofs.Ytdoclpgciadjaaa.P
open Go.RowKit Go.Proofs.YtdoclpgciadjaaaW.PrintWords Go.Proofs.YtdoclpgciadjaaaW.PrintLast Go.Proofs.YtdoclpgciadjaaaW.PrintMore
attribute [local go_sem] max2_int min2_int max_two min_two max_three min_three max_four min_four
set_option linter.unusedVariables false
set_option linter.unusedSimpArgs false

-- GIVEN rounds=0 making=1 import=Derived.Test.YtdoclpgciadjaaaWorld
/-! ### impl_Pack: function 92 -/
def packTo (s : ByteArray) : Nat → List Int
  | 0 => []
  | n + 1 => packBit (packTo s n) n (rd (bytesOf s) (n : Int) - 48)
def impl_Pack.f (a0 : ByteArray) : Option (Int × List Int) := some (if a0.size ≤ 4000 ∧ isBits a0 = true then ((a0.size : Int), packTo a0 a0.size) else (0, []))
theorem packBit_length (ws : List Int) (n : Nat) (b : Int) : (packBit ws n b).length = (packRow ws n).length := by unfold packBit; rw [List.length_set]
theorem packTo_length (s : ByteArray) (n : Nat) : (packTo s n).length = (n + 63) / 64 := by
  induction n with
  | zero => rfl
  | succ n ih =>
    rw [packTo, packBit_length]
    unfold packRow
    split
    · rw [List.length_append, ih]; simp; omega
    · rw [ih]; omega
theorem rd_bytes8 (s : ByteArray) (i : Nat) (h : i < s.size) : rd (bytesOf s) (i : Int) = ((s[i]'h).toNat : Int) := by
  unfold rd bytesOf
  rw [Int.toNat_natCast, List.getD_eq_getElem?_getD, List.getElem?_map, Array.getElem?_toList, Array.getElem?_eq_getElem (show i < s.data.size from h)]
  rfl
/-- What stands at the head of the loop. -/
structure PackIn (w wr : World) (p m n : Nat) (s : ByteArray) (v : Value) : Prop where
  ptr : wr.heap[p]? = some (.cells #[.int .i64 n, v] 178 (0, 0))
  row : Kd.R (Kd.int .u64) 170 wr w.heap.size (fun k => m ≤ k) v (packTo s n)
  res : wr.heap[w.heap.size]? = some (.cells #[.int .i64 0, .slice none 0 0] 50 (0, 0))
  below : Below w.heap.size w wr
  size : m ≤ wr.heap.size
theorem PackIn.next {w wr : World} {p m it n : Nat} {s : ByteArray} {v : Value} (h : PackIn w wr p m n s v) (hit : wr.heap[it]? = some (.stringIter s n)) (him : it < m) (hpm : p < m) (hwp : w.heap.size < p) (hwi : w.heap.size ≤ it) (hn : n < s.size) (hs : s.size ≤ 4000) (b : Int) (hb : rd (bytesOf s) (n : Int) - 48 = b) :
    Calls Try.prog 140 #[.pointer (some ⟨p, 0, none⟩), .int .u64 b] (wr.iterAt it s (n + 1)) fun e w' => e = .returned (.tuple #[]) ∧ ∃ v', w'.heap[it]? = some (.stringIter s (n + 1)) ∧ PackIn w w' p m (n + 1) s v' := by
  have hip : p ≠ it := fun e => by have h1 := h.ptr; rw [e, hit] at h1; injection h1 with h1; cases h1
  have hir : w.heap.size ≠ it := fun e => by have h1 := h.res; rw [e, hit] at h1; injection h1 with h1; cases h1
  have hil : w.heap.size ≤ it := by omega
  have hsz := Lib.iterAt_size wr it s (n + 1)
  have hms := h.size
  refine (impl_packer_bit.calls p v (packTo s n) n b (fun k => m ≤ k) w (wr.iterAt it s (n + 1)) ((Lib.iterAt_other wr it p s (n + 1) hip).trans h.ptr) (R_iterAt h.row hit (n + 1)) (Lib.below_iterAt h.below hil s (n + 1)) (Nat.le_of_lt hwp) (by omega) (fun k hk => by omega) (by omega) (packTo_length s n)).mono ?_
  rintro e w' ⟨rfl, v', h1, h2, h3, h4⟩
  refine ⟨rfl, v', blk_kept (Lib.iterAt_heap wr it s n (n + 1) hit) h4 (by omega), h1, ?_, blk_kept ((Lib.iterAt_other wr it _ s (n + 1) hir).trans h.res) h4 (by omega), h3, by have := h4.1; omega⟩
  rw [packTo, hb]
  exact h2
set_option maxHeartbeats 4000000 in
theorem impl_Pack.yes (a0 : ByteArray) (w : World) (hsz : a0.size ≤ 4000) (hB0 : isBits a0 = true) :
    Calls Try.prog 92 #[.string a0] w fun e w' => ∃ v1_ : Value, e = .returned (.agg #[.int .i64 (a0.size : Int), v1_]) ∧ Kd.R (Kd.int .u64) 170 w' w.heap.size (fun _ => True) v1_ (packTo a0 a0.size) ∧ Below w.heap.size w w' := by
  have hbt : Hid (impl_bitText.f a0 4000 = some true) := by
    refine Lib.hid ?_
    unfold impl_bitText.f
    rw [hB0, decide_eq_true (by omega)]; rfl
  have HBT := Lib.hid hB0
  clear hB0
  go_enter Try.func92, Try.ntmps92
  go_wp2_with (go_at_call 77; refine (impl_bitText.calls _ _ true _ hbt.out).mono ?_; rintro e w1 ⟨rfl, hb1⟩; have HRES := Lib.hid (blk_below (blk_new w _) hb1); have HB1 : Hid (Below w.heap.size w w1) := Lib.hid (Below.trans ((Below.refl _ _).alloc (Nat.le_refl _) _) (hb1.mono (by simp))); have HRL : Hid (w.heap.size < w1.heap.size) := Lib.hid (Array.getElem?_eq_some_iff.1 HRES.out).1; clear hb1)
  go_loopw [] (fun wr => ∃ (pos : Nat) (v : Value), pos ≤ a0.size ∧ wr.heap[w1.heap.size + 1]? = some (.stringIter a0 pos) ∧ Aside0 (PackIn w wr w1.heap.size (w1.heap.size + 2) pos a0 v)) (fun wr => a0.size - wr.iterPos (w1.heap.size + 1))
  case atStart => exact ⟨0, .slice none 0 0, Nat.zero_le _, by have := iter_new (w1.alloc (.cells #[.int .i64 0, .slice none 0 0] 178)) a0 0; simpa using this, ⟨⟨blk_alloc (blk_new w1 _) _, Kd.R_nil _ _ _ _ _, blk_alloc (blk_alloc HRES.out _) _, (HB1.out.alloc HB1.out.size _).alloc (by have := HB1.out.size; simp; omega) _, by simp [World.iter]⟩⟩⟩
  case round =>
    obtain ⟨pos, v, hle, hit, HPI⟩ := hrel
    by_cases hp : pos < a0.size
    · have hbit := isBits_at HBT.out hp
      rcases isBit_cases hbit with e | e
      · have hnx := fun ty => next_bit_at (P := Try.prog) _ _ a0 pos ty hit hp (b := 48) (by rw [e]; rfl) (by omega)
        have HN := Lib.hid (HPI.out.next hit (by omega) (by omega) HRL.out (by have := HRL.out; omega) hp hsz 0 (by rw [rd_bytes8 a0 pos hp, e]; rfl))
        have HIT := Lib.hid hit
        clear e hbit hit
        go_wp2_with (go_at_call 140; refine HN.out.mono ?_; rintro e w2 ⟨rfl, v2, hi2, hk2⟩; have HI2 := Lib.hid hi2; have HK2 := Aside0.mk hk2; clear hi2 hk2)
        go_roundw
        case rel => exact ⟨pos + 1, v2, hp, HI2.out, HK2⟩
        case measure => rw [iterPos_at HI2.out, iterPos_at HIT.out]; omega
      · have hnx := fun ty => next_bit_at (P := Try.prog) _ _ a0 pos ty hit hp (b := 49) (by rw [e]; rfl) (by omega)
        have HN := Lib.hid (HPI.out.next hit (by omega) (by omega) HRL.out (by have := HRL.out; omega) hp hsz 1 (by rw [rd_bytes8 a0 pos hp, e]; rfl))
        have HIT := Lib.hid hit
        clear e hbit hit
        go_wp2_with (go_at_call 140; refine HN.out.mono ?_; rintro e w2 ⟨rfl, v2, hi2, hk2⟩; have HI2 := Lib.hid hi2; have HK2 := Aside0.mk hk2; clear hi2 hk2)
        go_roundw
        case rel => exact ⟨pos + 1, v2, hp, HI2.out, HK2⟩
        case measure => rw [iterPos_at HI2.out, iterPos_at HIT.out]; omega
    · have hnx := fun ty => Lib.run_next_end_at (P := Try.prog) _ _ a0 pos ty hit hp
      obtain rfl : pos = a0.size := by omega
      obtain ⟨A, c, ev⟩ := Kd.R_slice HPI.out.row
      subst ev
      go_wp2_with (fail)
      (refine (impl_packer_finish.calls _ _ _ _ _ _ HPI.out.ptr).mono ?_; rintro e w2 ⟨rfl, hb2⟩; have HB2 := Lib.hid hb2; have HR2 := Lib.hid (blk_below HPI.out.res hb2); have hc0 := blk_cell HR2.out 0; have hc1 := blk_cell HR2.out 1; have hf0 := blk_frozen HR2.out 0; have hf1 := blk_frozen HR2.out 1; simp only [box2_0, box2_1] at hc0 hc1; clear hb2)
      go_wp2_with (fail)
      refine bodyPost_ret (results_cell_row rfl _ _ w.heap.size 50 #[.int .i64 (a0.size : Int), .slice A (packTo a0 a0.size).length c] (0, 0) _ rfl (by simp only [World.setCell, Array.getElem?_modify, HR2.out]; simp) Try.underlying50 rfl (by kernel_rfl)) rfl ?_
      have hne : ∀ k, w1.heap.size + 2 ≤ k → k ≠ w.heap.size := fun k hk => by have := HRL.out; omega
      exact ⟨_, rfl, Kd.R_mono (Kd.R_step (Kd.R_step (Kd.R_below HPI.out.row HB2.out) (fun k hk _ => Below.heap_setCell _ _ _ k (hne k hk))) (fun k hk _ => Below.heap_setCell _ _ _ k (hne k hk))) (fun _ _ => trivial), ((HPI.out.below.trans (HB2.out.mono HPI.out.below.size)).setCell (Nat.le_refl _) _).setCell (Nat.le_refl _) _⟩
theorem impl_Pack.calls (a0 : ByteArray) (r1 : Int) (r2 : List Int) (w : World) (h : impl_Pack.f a0 = some (r1, r2)) :
    Calls Try.prog 92 #[.string a0] w fun e w' => ∃ v1_ : Value, e = .returned (.agg #[.int .i64 r1, v1_]) ∧ Kd.R (Kd.int .u64) 170 w' w.heap.size (fun _ => True) v1_ r2 ∧ Below w.heap.size w w' := by
  unfold impl_Pack.f at h
  have h := Option.some.inj h
  by_cases c : a0.size ≤ 4000 ∧ isBits a0 = true
  · rw [if_pos c] at h
    obtain ⟨rfl, rfl⟩ := Prod.mk.inj h
    exact impl_Pack.yes a0 w c.1 c.2
  · rw [if_neg c] at h
    obtain ⟨rfl, rfl⟩ := Prod.mk.inj h
    clear h
    have hbt : Hid (impl_bitText.f a0 4000 = some false) := by
      refine Lib.hid ?_
      unfold impl_bitText.f
      congr 1
      rw [Bool.and_eq_false_iff]
      by_cases h : isBits a0 = true
      · exact .inl (decide_eq_false fun h2 => c ⟨by omega, h⟩)
      · exact .inr (by simpa using h)
    clear c
    have hu33 := Try.underlying50
    go_enter Try.func92, Try.ntmps92
    go_wp2_with (fail)
    (refine (impl_bitText.calls _ _ false _ hbt.out).mono ?_; rintro e w1 ⟨rfl, hb1⟩; have HR2 := Lib.hid (blk_below (blk_new w _) hb1); have HB1 : Hid (Below w.heap.size w w1) := Lib.hid (Below.trans ((Below.refl _ _).alloc (Nat.le_refl _) _) (hb1.mono (by simp))); have hc0 := blk_cell HR2.out 0; have hc1 := blk_cell HR2.out 1; have hf0 := blk_frozen HR2.out 0; have hf1 := blk_frozen HR2.out 1; simp only [box2_0, box2_1] at hc0 hc1; clear hb1)
    go_wp2_with (fail)
    refine bodyPost_ret (results_cell_row rfl _ _ w.heap.size 50 #[.int .i64 0, .slice none 0 0] (0, 0) _ rfl (by simp only [World.setCell, Array.getElem?_modify, HR2.out]; simp) Try.underlying50 rfl (by kernel_rfl)) rfl ?_
    exact ⟨_, rfl, Kd.R_nil _ _ _ _ _, (HB1.out.setCell (Nat.le_refl _) _).setCell (Nat.le_refl _) _⟩

end Go.Proofs.Ytdoclpgciadjaaa.P

namespace Go.Proofs.Ytdoclpgciadjaaa.P
open Go.RowKit Go.Proofs.YtdoclpgciadjaaaW.PrintWords Go.Proofs.YtdoclpgciadjaaaW.PrintLast Go.Proofs.YtdoclpgciadjaaaW.PrintMore
attribute [local go_sem] max2_int min2_int max_two min_two max_three min_three max_four min_four
set_option linter.unusedVariables false
set_option linter.unusedSimpArgs false

/-! ### impl_Image: function 34 -/
def impl_Image.f (a0_0 : Bool) (a0_1 : Int) (a0_2 : Bool) (a0_3 : Int) (l0_4 : List Int) : Option (Int × List Int) := (impl_Encode.f a0_0 a0_1 a0_2 a0_3 l0_4).bind fun t177 => ((impl_Pack.f t177).bind fun bt178 => (some (bt178.1, bt178.2)))
set_option maxHeartbeats 8000000 in
set_option maxRecDepth 100000 in
theorem impl_Image.calls (a0_0 : Bool) (a0_1 : Int) (a0_2 : Bool) (a0_3 : Int) (A0_4 : Option Addr) (c0_4 : Nat) (l0_4 : List Int) (r1 : Int) (r2 : List Int) (w : World) (hr0_4 : Kd.C (Kd.int .u8) w A0_4 l0_4.length l0_4) (hc0_4 : l0_4.length ≤ c0_4) (h : impl_Image.f a0_0 a0_1 a0_2 a0_3 l0_4 = some (r1, r2)) :
    Calls Try.prog 34 #[.agg #[.bool a0_0, .int .u32 a0_1, .bool a0_2, .int .i64 a0_3, .slice A0_4 l0_4.length c0_4]] w fun e w' => ∃ v1_ : Value, e = .returned (.agg #[.int .i64 r1, v1_]) ∧ Kd.R (Kd.int .u64) 170 w' w.heap.size (fun _ => True) v1_ r2 ∧ Below w.heap.size w w' := by
  have hu25 := Try.underlying25
  have hu50 := Try.underlying50
  have HR0_4 := Aside0.mk hr0_4
  have HC0_4 := Aside0.mk hc0_4
  clear hr0_4 hc0_4
  have HB := Aside0.mk (Below.refl w.heap.size w)
  have H : ((impl_Encode.f a0_0 a0_1 a0_2 a0_3 l0_4).bind fun t177 => ((impl_Pack.f t177).bind fun bt178 => (some (bt178.1, bt178.2)))) = some (r1, r2) := h
  clear h
  replace H := Option.bind_eq_some_iff.mp H
  obtain ⟨t177, A20, H⟩ := H
  replace H : ((impl_Pack.f t177).bind fun bt178 => (some (bt178.1, bt178.2))) = some (r1, r2) := H
  have A2 := Aside0.mk A20
  clear A20
  replace H := Option.bind_eq_some_iff.mp H
  obtain ⟨⟨t178, t179⟩, A30, H⟩ := H
  replace H : (some (t178, t179)) = some (r1, r2) := H
  have A3 := Aside0.mk A30
  clear A30
  simp only [Option.some.injEq, Prod.mk.injEq] at H
  obtain ⟨rfl, rfl⟩ := H
  go_enter Try.func34, Try.ntmps34
  go_wp2_with (first | ((with_reducible refine gate_dst (N := 1) rfl ?_); refine box_event ?hg (N := 1) ?hd (cs := #[.bool a0_0, .int .u32 a0_1, .bool a0_2, .int .i64 a0_3, .slice A0_4 l0_4.length c0_4]) (t := 25) ?hr ?_; (case hd => rfl); (case hg => rfl); (case hr => first | (go_simp; done) | (go_simp; rfl)); intro gb175 hg w4 hbox hb; have n0_ := Aside0.mk (below_step (by repeat (first | (with_reducible first | exact HB.out | apply below_alloc | apply pw_below_drewN | apply below_drew1) | exact HB.out)) hb); have n1_ := Aside0.mk (hbox); have n2_ := Aside0.mk ((by rw [hg]; exact (below_size (by repeat (first | (with_reducible first | exact HB.out | apply below_alloc | apply pw_below_drewN | apply below_drew1) | exact HB.out))) : w.heap.size ≤ gb175)); have n3_ := Aside0.mk ((by rw [hg]; exact (below_size (by repeat (first | (with_reducible first | exact HB.out | apply below_alloc | apply pw_below_drewN | apply below_drew1) | exact HB.out))) : w.heap.size ≤ gb175)); clear HB; have HB := n0_; have BK175 := n1_; have GW175 := n2_; have GE175 := n3_; clear n0_ n1_ n2_ n3_; clear hb hbox hg) | ((with_reducible refine gate_dst (N := 2) rfl ?_); refine box_event ?hg (N := 2) ?hd (cs := #[.int .i64 0, .slice none 0 0]) (t := 50) ?hr ?_; (case hd => rfl); (case hg => rfl); (case hr => first | (go_simp; done) | (go_simp; rfl)); intro gb176 hg w5 hbox hb; have n0_ := Aside0.mk (blk_below (g := gb175) (o := .cells #[.bool a0_0, .int .u32 a0_1, .bool a0_2, .int .i64 a0_3, .slice A0_4 l0_4.length c0_4] 25 (0, 0)) (by (with_reducible repeat (first | refine blk_drewN ?_ _ | refine blk_drew ?_ | refine blk_alloc ?_ _)); exact BK175.out) hb); have n1_ := Aside0.mk (below_step (by repeat (first | (with_reducible first | exact HB.out | apply below_alloc | apply pw_below_drewN | apply below_drew1 | refine below_set ?_ GE175.out) | exact HB.out)) hb); have n2_ := Aside0.mk (hbox); have n3_ := Aside0.mk ((by rw [hg]; exact (below_size (by repeat (first | (with_reducible first | exact HB.out | apply below_alloc | apply pw_below_drewN | apply below_drew1 | refine below_set ?_ GE175.out) | exact HB.out))) : w.heap.size ≤ gb176)); have n4_ := Aside0.mk ((by rw [hg]; exact (below_size (by repeat (first | (with_reducible first | exact HB.out | apply below_alloc | apply pw_below_drewN | apply below_drew1 | refine below_set ?_ GE175.out) | exact HB.out))) : w.heap.size ≤ gb176)); have n5_ := Aside0.mk ((by rw [hg]; exact Nat.ne_of_lt (blk_lt (g := gb175) (o := .cells #[.bool a0_0, .int .u32 a0_1, .bool a0_2, .int .i64 a0_3, .slice A0_4 l0_4.length c0_4] 25 (0, 0)) (by (with_reducible repeat (first | refine blk_drewN ?_ _ | refine blk_drew ?_ | refine blk_alloc ?_ _)); exact BK175.out)) : gb175 ≠ gb176)); have n6_ := Aside0.mk ((by rw [hg]; exact Nat.ne_of_gt (blk_lt (g := gb175) (o := .cells #[.bool a0_0, .int .u32 a0_1, .bool a0_2, .int .i64 a0_3, .slice A0_4 l0_4.length c0_4] 25 (0, 0)) (by (with_reducible repeat (first | refine blk_drewN ?_ _ | refine blk_drew ?_ | refine blk_alloc ?_ _)); exact BK175.out)) : gb176 ≠ gb175)); clear BK175; clear HB; have BK175 := n0_; have HB := n1_; have BK176 := n2_; have GW176 := n3_; have GE176 := n4_; have NB175_176 := n5_; have NB176_175 := n6_; clear n0_ n1_ n2_ n3_ n4_ n5_ n6_; clear hb hbox hg; have hnb6 := NB175_176.out; have hnc6 := NB176_175.out; have hcz7_0 : w5.cell? ⟨gb175, 0, none⟩ = some (.bool a0_0) := (blk_cell BK175.out 0).trans rfl; have hcz7_1 : w5.cell? ⟨gb175, 1, none⟩ = some (.int .u32 a0_1) := (blk_cell BK175.out 1).trans rfl; have hcz7_2 : w5.cell? ⟨gb175, 2, none⟩ = some (.bool a0_2) := (blk_cell BK175.out 2).trans rfl; have hcz7_3 : w5.cell? ⟨gb175, 3, none⟩ = some (.int .i64 a0_3) := (blk_cell BK175.out 3).trans rfl; have hcz7_4 : w5.cell? ⟨gb175, 4, none⟩ = some (.slice A0_4 l0_4.length c0_4) := (blk_cell BK175.out 4).trans rfl; have hfz7_0 := blk_frozen BK175.out 0; have hfz7_1 := blk_frozen BK175.out 1; have hfz7_2 := blk_frozen BK175.out 2; have hfz7_3 := blk_frozen BK175.out 3; have hfz7_4 := blk_frozen BK175.out 4) | ((with_reducible refine gate_callee (f := 28) rfl ?_); refine goesL_ (some 4) rfl rfl Try.func28 (by kernel_rfl) rfl #[.agg #[.bool a0_0, .int .u32 a0_1, .bool a0_2, .int .i64 a0_3, .slice A0_4 l0_4.length c0_4]] rfl (by (try simp only [List.map_toArray, List.map_cons, List.map_nil]); first | done | rfl | (simp only [List.length_drop, List.length_take]; rfl)) ?_; (with_reducible refine (impl_Encode.calls a0_0 a0_1 a0_2 a0_3 _ _ l0_4 t177 _ ?side1 ?side2 A2.out).mono ?_); (case side1 => repeat (first | exact (Kd.C_below HR0_4.out HB.out) | (with_reducible refine Kd.C_alloc ?_ _) | (with_reducible refine Kd.C_drewN ?_ _) | (with_reducible refine Kd.C_drew ?_))); (case side2 => exact HC0_4.out); rintro e w8 ⟨rfl, hb⟩; refine ⟨_, rfl, ?_⟩; have n0_ := Aside0.mk (blk_below (g := gb175) (o := .cells #[.bool a0_0, .int .u32 a0_1, .bool a0_2, .int .i64 a0_3, .slice A0_4 l0_4.length c0_4] 25 (0, 0)) (by (with_reducible repeat (first | refine blk_drewN ?_ _ | refine blk_drew ?_ | refine blk_alloc ?_ _)); exact BK175.out) hb); have n1_ := Aside0.mk (blk_below (g := gb176) (o := .cells #[.int .i64 0, .slice none 0 0] 50 (0, 0)) (by (with_reducible repeat (first | refine blk_drewN ?_ _ | refine blk_drew ?_ | refine blk_alloc ?_ _)); exact BK176.out) hb); have n2_ := Aside0.mk (below_step (by repeat (first | (with_reducible first | exact HB.out | apply below_alloc | apply pw_below_drewN | apply below_drew1 | refine below_set ?_ GE175.out | refine below_set ?_ GE176.out) | exact HB.out)) hb); clear BK175; clear BK176; clear HB; have BK175 := n0_; have BK176 := n1_; have HB := n2_; clear n0_ n1_ n2_; (try clear hb); (try clear hb2); (try clear hk); (try clear hi)) | ((with_reducible refine gate_callee (f := 92) rfl ?_); refine goesL_ (some 5) rfl rfl Try.func92 (by kernel_rfl) rfl #[.string t177] rfl (by (try simp only [List.map_toArray, List.map_cons, List.map_nil]); first | done | rfl | (simp only [List.length_drop, List.length_take]; rfl)) ?_; (with_reducible refine (impl_Pack.calls t177 t178 t179 _ A3.out).mono ?_); rintro e w9 ⟨v180, rfl, ho0, hb⟩; refine ⟨_, rfl, ?_⟩; have n0_ := Aside0.mk (Kd.R_lower ho0 (below_size (by repeat (first | (with_reducible first | exact HB.out | apply below_alloc | apply pw_below_drewN | apply below_drew1 | refine below_set ?_ GE175.out | refine below_set ?_ GE176.out) | exact HB.out)))); have n1_ := Aside0.mk (blk_below (g := gb175) (o := .cells #[.bool a0_0, .int .u32 a0_1, .bool a0_2, .int .i64 a0_3, .slice A0_4 l0_4.length c0_4] 25 (0, 0)) (by (with_reducible repeat (first | refine blk_drewN ?_ _ | refine blk_drew ?_ | refine blk_alloc ?_ _)); exact BK175.out) hb); have n2_ := Aside0.mk (blk_below (g := gb176) (o := .cells #[.int .i64 0, .slice none 0 0] 50 (0, 0)) (by (with_reducible repeat (first | refine blk_drewN ?_ _ | refine blk_drew ?_ | refine blk_alloc ?_ _)); exact BK176.out) hb); have n3_ := Aside0.mk (below_step (by repeat (first | (with_reducible first | exact HB.out | apply below_alloc | apply pw_below_drewN | apply below_drew1 | refine below_set ?_ GE175.out | refine below_set ?_ GE176.out) | exact HB.out)) hb); clear BK175; clear BK176; clear HB; have HO181 := n0_; have BK175 := n1_; have BK176 := n2_; have HB := n3_; clear n0_ n1_ n2_ n3_; (try clear hb); (try clear hb2); (try clear hk); (try clear hi); (try clear ho0); have hcz10_0 : w9.cell? ⟨gb176, 0, none⟩ = some (.int .i64 0) := (blk_cell BK176.out 0).trans rfl; have hcz10_1 : w9.cell? ⟨gb176, 1, none⟩ = some (.slice none 0 0) := (blk_cell BK176.out 1).trans rfl; have hfz10_0 := blk_frozen BK176.out 0; have hfz10_1 := blk_frozen BK176.out 1; obtain ⟨Ao11, co11, eo11⟩ := Kd.R_slice HO181.out; subst eo11))
  refine bodyPost_ret (results_cell_row rfl _ _ gb176 50 #[.int .i64 t178, .slice Ao11 t179.length co11] (0, 0) _ rfl (by (with_reducible repeat (first | refine blk_drewN ?_ _ | refine blk_drew ?_ | refine blk_alloc ?_ _)); refine blk_put (cs := #[.int .i64 t178, .slice none 0 0]) ?_ 1 _ rfl; (with_reducible repeat (first | refine blk_drewN ?_ _ | refine blk_drew ?_ | refine blk_alloc ?_ _)); refine blk_put (cs := #[.int .i64 0, .slice none 0 0]) ?_ 0 _ rfl; (with_reducible repeat (first | refine blk_drewN ?_ _ | refine blk_drew ?_ | refine blk_alloc ?_ _)); exact BK176.out) Try.underlying50 rfl (by kernel_rfl)) rfl ?_
  exact ⟨_, by first | rfl | (simp [errW_none, errW_some] <;> rfl) | (simp [*, errW_none, errW_some] <;> rfl), by (with_reducible repeat (first | apply Kd.R_alloc | apply Kd.R_drewN | apply Kd.R_drew)); exact Kd.R_mono (Kd.R_far (p := ⟨gb176, 1, none⟩) (Kd.R_far (p := ⟨gb176, 0, none⟩) (Kd.R_types HO181.out BK176.out (by decide)) (fun _ hk => hk.2) (.int .i64 t178)) (fun _ hk => hk.2) (.slice Ao11 t179.length co11)) (fun _ hk => trivial), by repeat (first | (with_reducible first | exact HB.out | apply below_alloc | apply pw_below_drewN | apply below_drew1 | refine below_set ?_ GE175.out | refine below_set ?_ GE176.out) | exact HB.out)⟩

end Go.Proofs.Ytdoclpgciadjaaa.P
