/- Texts of the proof of FnExactErrorState, joined. -/
import Derived.Test.YtdoclpgciadjaaaSFnExactErrorState22
import Derived.Test.YtdoclpgciadjaaaSFnExactErrorState29
import Derived.Test.YtdoclpgciadjaaaSFnExactErrorState30
import Derived.Deep.Slices
import Derived.Deep.Fields
import Derived.ChangeSame
import Derived.WideShapes
import Derived.Lib.Hide
import Derived.Deep.RegionHeld
namespace Go.Proofs.Ytdoclpgciadjaaa.P
open Go.RowKit Go.Proofs.YtdoclpgciadjaaaW.PrintWords Go.Proofs.YtdoclpgciadjaaaW.PrintLast Go.Proofs.YtdoclpgciadjaaaW.PrintMore
set_option linter.unusedVariables false
set_option linter.unusedSimpArgs false
def laws_szCore.f (k : Nat) (a0_0 : Int) (a0_1 : Int) (a0_2 : Int) (a0_3 : Bool) (a0_4 : Bool) (a0_5 : Bool) (a0_6 : Bool) (a0_7 : Bool) (a0_8 : Int) (a0_9 : Int) (a0_10 : Int) (a0_11 : Int) (a0_12 : Int) (a0_13 : Int) (a0_14 : Int) (l0_15 : List (S144)) (l0_16 : List (S209)) (l0_17 : List (S46)) (l0_18 : List (S212)) (a0_19 : Int) (a0_20 : Int) (a1 : Int) : Option (Int) := (laws_szHost.f k a0_11 a0_12 a0_13 a0_14 l0_15 l0_16 l0_17 l0_18 a0_19 a0_20 a1).bind fun t119 => (if t119 < 0 then (some (-1)) else (some t119))
theorem laws_szCore.mono : ∀ a0 a1 a2 a3 a4 a5 a6 a7 a8 a9 a10 a11 a12 a13 a14 a15 a16 a17 a18 a19 a20 a21 k, LeO (laws_szCore.f k a0 a1 a2 a3 a4 a5 a6 a7 a8 a9 a10 a11 a12 a13 a14 a15 a16 a17 a18 a19 a20 a21) (laws_szCore.f (k + 1) a0 a1 a2 a3 a4 a5 a6 a7 a8 a9 a10 a11 a12 a13 a14 a15 a16 a17 a18 a19 a20 a21) := by
  intro a0 a1 a2 a3 a4 a5 a6 a7 a8 a9 a10 a11 a12 a13 a14 a15 a16 a17 a18 a19 a20 a21 k
  unfold laws_szCore.f
  repeat' first
      | (with_reducible exact laws_szHost.mono _ _ _ _ _ _ _ _ _ _ _ _)
      | (with_reducible exact LeO.refl _)
      | (with_reducible exact LeO.none _)
      | (with_reducible refine LeO.ite ?_ ?_)
      | (with_reducible refine LeO.bind ?_ (fun _ => ?_))
      | exact laws_szHost.mono _ _ _ _ _ _ _ _ _ _ _ _
      | exact LeO.none _
      | refine LeO.ite ?_ ?_
      | refine LeO.bind ?_ (fun _ => ?_)
set_option maxHeartbeats 8000000 in
set_option maxRecDepth 100000 in
theorem laws_szCore.calls (k : Nat) (a0_0 : Int) (a0_1 : Int) (a0_2 : Int) (a0_3 : Bool) (a0_4 : Bool) (a0_5 : Bool) (a0_6 : Bool) (a0_7 : Bool) (a0_8 : Int) (a0_9 : Int) (a0_10 : Int) (a0_11 : Int) (a0_12 : Int) (a0_13 : Int) (a0_14 : Int) (A0_15 : Option Addr) (c0_15 : Nat) (l0_15 : List (S144)) (A0_16 : Option Addr) (c0_16 : Nat) (l0_16 : List (S209)) (A0_17 : Option Addr) (c0_17 : Nat) (l0_17 : List (S46)) (A0_18 : Option Addr) (c0_18 : Nat) (l0_18 : List (S212)) (a0_19 : Int) (a0_20 : Int) (a1 : Int) (r : Int) (w : World) (hr0_15 : Kd.C k144 w A0_15 l0_15.length l0_15) (hc0_15 : l0_15.length ≤ c0_15) (hr0_16 : Kd.C k209 w A0_16 l0_16.length l0_16) (hc0_16 : l0_16.length ≤ c0_16) (hr0_17 : Kd.C k46 w A0_17 l0_17.length l0_17) (hc0_17 : l0_17.length ≤ c0_17) (hr0_18 : Kd.C k212 w A0_18 l0_18.length l0_18) (hc0_18 : l0_18.length ≤ c0_18) (h : laws_szCore.f k a0_0 a0_1 a0_2 a0_3 a0_4 a0_5 a0_6 a0_7 a0_8 a0_9 a0_10 a0_11 a0_12 a0_13 a0_14 l0_15 l0_16 l0_17 l0_18 a0_19 a0_20 a1 = some r) :
    Calls Try.prog 40 #[.agg #[.int .i64 a0_0, .int .i64 a0_1, .int .i64 a0_2, .bool a0_3, .bool a0_4, .bool a0_5, .bool a0_6, .bool a0_7, .int .i64 a0_8, .int .i64 a0_9, .int .i64 a0_10, .int .i64 a0_11, .int .i64 a0_12, .int .i64 a0_13, .int .i64 a0_14, .slice A0_15 l0_15.length c0_15, .slice A0_16 l0_16.length c0_16, .slice A0_17 l0_17.length c0_17, .slice A0_18 l0_18.length c0_18, .int .i64 a0_19, .int .i64 a0_20], .int .i64 a1] w fun e w' => e = .returned (.int .i64 r) ∧ Below w.heap.size w w' := by
  have hu67 := Try.underlying67
  have hu65 := Try.underlying65
  have HR0_15 := Aside0.mk hr0_15
  have HC0_15 := Aside0.mk hc0_15
  clear hr0_15 hc0_15
  have HR0_16 := Aside0.mk hr0_16
  have HC0_16 := Aside0.mk hc0_16
  clear hr0_16 hc0_16
  have HR0_17 := Aside0.mk hr0_17
  have HC0_17 := Aside0.mk hc0_17
  clear hr0_17 hc0_17
  have HR0_18 := Aside0.mk hr0_18
  have HC0_18 := Aside0.mk hc0_18
  clear hr0_18 hc0_18
  have HB := Aside0.mk (Below.refl w.heap.size w)
  have H : ((laws_szHost.f k a0_11 a0_12 a0_13 a0_14 l0_15 l0_16 l0_17 l0_18 a0_19 a0_20 a1).bind fun t119 => (if t119 < 0 then (some (-1)) else (some t119))) = some r := h
  clear h
  replace H := Option.bind_eq_some_iff.mp H
  obtain ⟨t119, A30, H⟩ := H
  replace H : (if t119 < 0 then (some (-1)) else (some t119)) = some r := H
  have A3 := Aside0.mk A30
  clear A30
  by_cases c4 : t119 < 0
  · rw [if_pos c4] at H
    have c4b0 : decide (t119 < 0) = true := decide_eq_true c4
    clear c4
    obtain rfl := Option.some.inj H
    go_enter Try.func40, Try.ntmps40
    go_wp2_with (first | ((with_reducible refine gate_dst (N := 2) rfl ?_); refine box_event ?hg (N := 2) ?hd (cs := #[.int .i64 a0_0, .int .i64 a0_1, .int .i64 a0_2, .bool a0_3, .bool a0_4, .bool a0_5, .bool a0_6, .bool a0_7, .int .i64 a0_8, .int .i64 a0_9, .int .i64 a0_10, .int .i64 a0_11, .int .i64 a0_12, .int .i64 a0_13, .int .i64 a0_14, .slice A0_15 l0_15.length c0_15, .slice A0_16 l0_16.length c0_16, .slice A0_17 l0_17.length c0_17, .slice A0_18 l0_18.length c0_18, .int .i64 a0_19, .int .i64 a0_20]) (t := 67) ?hr ?_; (case hd => rfl); (case hg => rfl); (case hr => first | (go_simp; done) | (go_simp; rfl)); intro gb118 hg w5 hbox hb; have n0_ := Aside0.mk (below_step (by repeat (first | (with_reducible first | exact HB.out | apply below_alloc | apply pw_below_drewN | apply below_drew1) | exact HB.out)) hb); have n1_ := Aside0.mk (hbox); have n2_ := Aside0.mk ((by rw [hg]; exact (below_size (by repeat (first | (with_reducible first | exact HB.out | apply below_alloc | apply pw_below_drewN | apply below_drew1) | exact HB.out))) : w.heap.size ≤ gb118)); have n3_ := Aside0.mk ((by rw [hg]; exact (below_size (by repeat (first | (with_reducible first | exact HB.out | apply below_alloc | apply pw_below_drewN | apply below_drew1) | exact HB.out))) : w.heap.size ≤ gb118)); clear HB; have HB := n0_; have BK118 := n1_; have GW118 := n2_; have GE118 := n3_; clear n0_ n1_ n2_ n3_; clear hb hbox hg; have hcz6_0 : w5.cell? ⟨gb118, 0, none⟩ = some (.int .i64 a0_0) := (blk_cell BK118.out 0).trans rfl; have hcz6_1 : w5.cell? ⟨gb118, 1, none⟩ = some (.int .i64 a0_1) := (blk_cell BK118.out 1).trans rfl; have hcz6_2 : w5.cell? ⟨gb118, 2, none⟩ = some (.int .i64 a0_2) := (blk_cell BK118.out 2).trans rfl; have hcz6_3 : w5.cell? ⟨gb118, 3, none⟩ = some (.bool a0_3) := (blk_cell BK118.out 3).trans rfl; have hcz6_4 : w5.cell? ⟨gb118, 4, none⟩ = some (.bool a0_4) := (blk_cell BK118.out 4).trans rfl; have hcz6_5 : w5.cell? ⟨gb118, 5, none⟩ = some (.bool a0_5) := (blk_cell BK118.out 5).trans rfl; have hcz6_6 : w5.cell? ⟨gb118, 6, none⟩ = some (.bool a0_6) := (blk_cell BK118.out 6).trans rfl; have hcz6_7 : w5.cell? ⟨gb118, 7, none⟩ = some (.bool a0_7) := (blk_cell BK118.out 7).trans rfl; have hcz6_8 : w5.cell? ⟨gb118, 8, none⟩ = some (.int .i64 a0_8) := (blk_cell BK118.out 8).trans rfl; have hcz6_9 : w5.cell? ⟨gb118, 9, none⟩ = some (.int .i64 a0_9) := (blk_cell BK118.out 9).trans rfl; have hcz6_10 : w5.cell? ⟨gb118, 10, none⟩ = some (.int .i64 a0_10) := (blk_cell BK118.out 10).trans rfl; have hcz6_11 : w5.cell? ⟨gb118, 11, none⟩ = some (.int .i64 a0_11) := (blk_cell BK118.out 11).trans rfl; have hcz6_12 : w5.cell? ⟨gb118, 12, none⟩ = some (.int .i64 a0_12) := (blk_cell BK118.out 12).trans rfl; have hcz6_13 : w5.cell? ⟨gb118, 13, none⟩ = some (.int .i64 a0_13) := (blk_cell BK118.out 13).trans rfl; have hcz6_14 : w5.cell? ⟨gb118, 14, none⟩ = some (.int .i64 a0_14) := (blk_cell BK118.out 14).trans rfl; have hcz6_15 : w5.cell? ⟨gb118, 15, none⟩ = some (.slice A0_15 l0_15.length c0_15) := (blk_cell BK118.out 15).trans rfl; have hcz6_16 : w5.cell? ⟨gb118, 16, none⟩ = some (.slice A0_16 l0_16.length c0_16) := (blk_cell BK118.out 16).trans rfl; have hcz6_17 : w5.cell? ⟨gb118, 17, none⟩ = some (.slice A0_17 l0_17.length c0_17) := (blk_cell BK118.out 17).trans rfl; have hcz6_18 : w5.cell? ⟨gb118, 18, none⟩ = some (.slice A0_18 l0_18.length c0_18) := (blk_cell BK118.out 18).trans rfl; have hcz6_19 : w5.cell? ⟨gb118, 19, none⟩ = some (.int .i64 a0_19) := (blk_cell BK118.out 19).trans rfl; have hcz6_20 : w5.cell? ⟨gb118, 20, none⟩ = some (.int .i64 a0_20) := (blk_cell BK118.out 20).trans rfl; have hfz6_0 := blk_frozen BK118.out 0; have hfz6_1 := blk_frozen BK118.out 1; have hfz6_2 := blk_frozen BK118.out 2; have hfz6_3 := blk_frozen BK118.out 3; have hfz6_4 := blk_frozen BK118.out 4; have hfz6_5 := blk_frozen BK118.out 5; have hfz6_6 := blk_frozen BK118.out 6; have hfz6_7 := blk_frozen BK118.out 7; have hfz6_8 := blk_frozen BK118.out 8; have hfz6_9 := blk_frozen BK118.out 9; have hfz6_10 := blk_frozen BK118.out 10; have hfz6_11 := blk_frozen BK118.out 11; have hfz6_12 := blk_frozen BK118.out 12; have hfz6_13 := blk_frozen BK118.out 13; have hfz6_14 := blk_frozen BK118.out 14; have hfz6_15 := blk_frozen BK118.out 15; have hfz6_16 := blk_frozen BK118.out 16; have hfz6_17 := blk_frozen BK118.out 17; have hfz6_18 := blk_frozen BK118.out 18; have hfz6_19 := blk_frozen BK118.out 19; have hfz6_20 := blk_frozen BK118.out 20) | ((with_reducible refine gate_callee (f := 98) rfl ?_); refine goesL_ (some 8) rfl rfl Try.func98 (by kernel_rfl) rfl #[.agg #[.int .i64 a0_11, .int .i64 a0_12, .int .i64 a0_13, .int .i64 a0_14, .slice A0_15 l0_15.length c0_15, .slice A0_16 l0_16.length c0_16, .slice A0_17 l0_17.length c0_17, .slice A0_18 l0_18.length c0_18, .int .i64 a0_19, .int .i64 a0_20], .int .i64 a1] rfl (by (try simp only [List.map_toArray, List.map_cons, List.map_nil]); first | done | rfl | (simp only [List.length_drop, List.length_take]; rfl)) ?_; (with_reducible refine (laws_szHost.calls k a0_11 a0_12 a0_13 a0_14 _ _ l0_15 _ _ l0_16 _ _ l0_17 _ _ l0_18 a0_19 a0_20 a1 t119 _ ?side1 ?side2 ?side3 ?side4 ?side5 ?side6 ?side7 ?side8 A3.out).mono ?_); (case side1 => repeat (first | exact (Kd.C_below HR0_15.out HB.out) | (with_reducible refine Kd.C_alloc ?_ _) | (with_reducible refine Kd.C_drewN ?_ _) | (with_reducible refine Kd.C_drew ?_))); (case side2 => exact HC0_15.out); (case side3 => repeat (first | exact (Kd.C_below HR0_16.out HB.out) | (with_reducible refine Kd.C_alloc ?_ _) | (with_reducible refine Kd.C_drewN ?_ _) | (with_reducible refine Kd.C_drew ?_))); (case side4 => exact HC0_16.out); (case side5 => repeat (first | exact (Kd.C_below HR0_17.out HB.out) | (with_reducible refine Kd.C_alloc ?_ _) | (with_reducible refine Kd.C_drewN ?_ _) | (with_reducible refine Kd.C_drew ?_))); (case side6 => exact HC0_17.out); (case side7 => repeat (first | exact (Kd.C_below HR0_18.out HB.out) | (with_reducible refine Kd.C_alloc ?_ _) | (with_reducible refine Kd.C_drewN ?_ _) | (with_reducible refine Kd.C_drew ?_))); (case side8 => exact HC0_18.out); rintro e w7 ⟨rfl, hb⟩; refine ⟨_, rfl, ?_⟩; have n0_ := Aside0.mk (blk_below (g := gb118) (o := .cells #[.int .i64 a0_0, .int .i64 a0_1, .int .i64 a0_2, .bool a0_3, .bool a0_4, .bool a0_5, .bool a0_6, .bool a0_7, .int .i64 a0_8, .int .i64 a0_9, .int .i64 a0_10, .int .i64 a0_11, .int .i64 a0_12, .int .i64 a0_13, .int .i64 a0_14, .slice A0_15 l0_15.length c0_15, .slice A0_16 l0_16.length c0_16, .slice A0_17 l0_17.length c0_17, .slice A0_18 l0_18.length c0_18, .int .i64 a0_19, .int .i64 a0_20] 67 (0, 0)) (by (with_reducible repeat (first | refine blk_drewN ?_ _ | refine blk_drew ?_ | refine blk_alloc ?_ _)); exact BK118.out) hb); have n1_ := Aside0.mk (below_step (by repeat (first | (with_reducible first | exact HB.out | apply below_alloc | apply pw_below_drewN | apply below_drew1 | refine below_set ?_ GE118.out) | exact HB.out)) hb); clear BK118; clear HB; have BK118 := n0_; have HB := n1_; clear n0_ n1_; (try clear hb); (try clear hb2); (try clear hk); (try clear hi)))
    go_ret
    exact ⟨by first | rfl | (simp [errW_none, errW_some] <;> rfl) | (simp [*, errW_none, errW_some] <;> rfl), by repeat (first | (with_reducible first | exact HB.out | apply below_alloc | apply pw_below_drewN | apply below_drew1 | refine below_set ?_ GE118.out) | exact HB.out)⟩
  · rw [if_neg c4] at H
    have c4b0 : decide (t119 < 0) = false := decide_eq_false c4
    clear c4
    obtain rfl := Option.some.inj H
    go_enter Try.func40, Try.ntmps40
    go_wp2_with (first | ((with_reducible refine gate_dst (N := 2) rfl ?_); refine box_event ?hg (N := 2) ?hd (cs := #[.int .i64 a0_0, .int .i64 a0_1, .int .i64 a0_2, .bool a0_3, .bool a0_4, .bool a0_5, .bool a0_6, .bool a0_7, .int .i64 a0_8, .int .i64 a0_9, .int .i64 a0_10, .int .i64 a0_11, .int .i64 a0_12, .int .i64 a0_13, .int .i64 a0_14, .slice A0_15 l0_15.length c0_15, .slice A0_16 l0_16.length c0_16, .slice A0_17 l0_17.length c0_17, .slice A0_18 l0_18.length c0_18, .int .i64 a0_19, .int .i64 a0_20]) (t := 67) ?hr ?_; (case hd => rfl); (case hg => rfl); (case hr => first | (go_simp; done) | (go_simp; rfl)); intro gb118 hg w8 hbox hb; have n0_ := Aside0.mk (below_step (by repeat (first | (with_reducible first | exact HB.out | apply below_alloc | apply pw_below_drewN | apply below_drew1) | exact HB.out)) hb); have n1_ := Aside0.mk (hbox); have n2_ := Aside0.mk ((by rw [hg]; exact (below_size (by repeat (first | (with_reducible first | exact HB.out | apply below_alloc | apply pw_below_drewN | apply below_drew1) | exact HB.out))) : w.heap.size ≤ gb118)); have n3_ := Aside0.mk ((by rw [hg]; exact (below_size (by repeat (first | (with_reducible first | exact HB.out | apply below_alloc | apply pw_below_drewN | apply below_drew1) | exact HB.out))) : w.heap.size ≤ gb118)); clear HB; have HB := n0_; have BK118 := n1_; have GW118 := n2_; have GE118 := n3_; clear n0_ n1_ n2_ n3_; clear hb hbox hg; have hcz9_0 : w8.cell? ⟨gb118, 0, none⟩ = some (.int .i64 a0_0) := (blk_cell BK118.out 0).trans rfl; have hcz9_1 : w8.cell? ⟨gb118, 1, none⟩ = some (.int .i64 a0_1) := (blk_cell BK118.out 1).trans rfl; have hcz9_2 : w8.cell? ⟨gb118, 2, none⟩ = some (.int .i64 a0_2) := (blk_cell BK118.out 2).trans rfl; have hcz9_3 : w8.cell? ⟨gb118, 3, none⟩ = some (.bool a0_3) := (blk_cell BK118.out 3).trans rfl; have hcz9_4 : w8.cell? ⟨gb118, 4, none⟩ = some (.bool a0_4) := (blk_cell BK118.out 4).trans rfl; have hcz9_5 : w8.cell? ⟨gb118, 5, none⟩ = some (.bool a0_5) := (blk_cell BK118.out 5).trans rfl; have hcz9_6 : w8.cell? ⟨gb118, 6, none⟩ = some (.bool a0_6) := (blk_cell BK118.out 6).trans rfl; have hcz9_7 : w8.cell? ⟨gb118, 7, none⟩ = some (.bool a0_7) := (blk_cell BK118.out 7).trans rfl; have hcz9_8 : w8.cell? ⟨gb118, 8, none⟩ = some (.int .i64 a0_8) := (blk_cell BK118.out 8).trans rfl; have hcz9_9 : w8.cell? ⟨gb118, 9, none⟩ = some (.int .i64 a0_9) := (blk_cell BK118.out 9).trans rfl; have hcz9_10 : w8.cell? ⟨gb118, 10, none⟩ = some (.int .i64 a0_10) := (blk_cell BK118.out 10).trans rfl; have hcz9_11 : w8.cell? ⟨gb118, 11, none⟩ = some (.int .i64 a0_11) := (blk_cell BK118.out 11).trans rfl; have hcz9_12 : w8.cell? ⟨gb118, 12, none⟩ = some (.int .i64 a0_12) := (blk_cell BK118.out 12).trans rfl; have hcz9_13 : w8.cell? ⟨gb118, 13, none⟩ = some (.int .i64 a0_13) := (blk_cell BK118.out 13).trans rfl; have hcz9_14 : w8.cell? ⟨gb118, 14, none⟩ = some (.int .i64 a0_14) := (blk_cell BK118.out 14).trans rfl; have hcz9_15 : w8.cell? ⟨gb118, 15, none⟩ = some (.slice A0_15 l0_15.length c0_15) := (blk_cell BK118.out 15).trans rfl; have hcz9_16 : w8.cell? ⟨gb118, 16, none⟩ = some (.slice A0_16 l0_16.length c0_16) := (blk_cell BK118.out 16).trans rfl; have hcz9_17 : w8.cell? ⟨gb118, 17, none⟩ = some (.slice A0_17 l0_17.length c0_17) := (blk_cell BK118.out 17).trans rfl; have hcz9_18 : w8.cell? ⟨gb118, 18, none⟩ = some (.slice A0_18 l0_18.length c0_18) := (blk_cell BK118.out 18).trans rfl; have hcz9_19 : w8.cell? ⟨gb118, 19, none⟩ = some (.int .i64 a0_19) := (blk_cell BK118.out 19).trans rfl; have hcz9_20 : w8.cell? ⟨gb118, 20, none⟩ = some (.int .i64 a0_20) := (blk_cell BK118.out 20).trans rfl; have hfz9_0 := blk_frozen BK118.out 0; have hfz9_1 := blk_frozen BK118.out 1; have hfz9_2 := blk_frozen BK118.out 2; have hfz9_3 := blk_frozen BK118.out 3; have hfz9_4 := blk_frozen BK118.out 4; have hfz9_5 := blk_frozen BK118.out 5; have hfz9_6 := blk_frozen BK118.out 6; have hfz9_7 := blk_frozen BK118.out 7; have hfz9_8 := blk_frozen BK118.out 8; have hfz9_9 := blk_frozen BK118.out 9; have hfz9_10 := blk_frozen BK118.out 10; have hfz9_11 := blk_frozen BK118.out 11; have hfz9_12 := blk_frozen BK118.out 12; have hfz9_13 := blk_frozen BK118.out 13; have hfz9_14 := blk_frozen BK118.out 14; have hfz9_15 := blk_frozen BK118.out 15; have hfz9_16 := blk_frozen BK118.out 16; have hfz9_17 := blk_frozen BK118.out 17; have hfz9_18 := blk_frozen BK118.out 18; have hfz9_19 := blk_frozen BK118.out 19; have hfz9_20 := blk_frozen BK118.out 20) | ((with_reducible refine gate_callee (f := 98) rfl ?_); refine goesL_ (some 8) rfl rfl Try.func98 (by kernel_rfl) rfl #[.agg #[.int .i64 a0_11, .int .i64 a0_12, .int .i64 a0_13, .int .i64 a0_14, .slice A0_15 l0_15.length c0_15, .slice A0_16 l0_16.length c0_16, .slice A0_17 l0_17.length c0_17, .slice A0_18 l0_18.length c0_18, .int .i64 a0_19, .int .i64 a0_20], .int .i64 a1] rfl (by (try simp only [List.map_toArray, List.map_cons, List.map_nil]); first | done | rfl | (simp only [List.length_drop, List.length_take]; rfl)) ?_; (with_reducible refine (laws_szHost.calls k a0_11 a0_12 a0_13 a0_14 _ _ l0_15 _ _ l0_16 _ _ l0_17 _ _ l0_18 a0_19 a0_20 a1 t119 _ ?side1 ?side2 ?side3 ?side4 ?side5 ?side6 ?side7 ?side8 A3.out).mono ?_); (case side1 => repeat (first | exact (Kd.C_below HR0_15.out HB.out) | (with_reducible refine Kd.C_alloc ?_ _) | (with_reducible refine Kd.C_drewN ?_ _) | (with_reducible refine Kd.C_drew ?_))); (case side2 => exact HC0_15.out); (case side3 => repeat (first | exact (Kd.C_below HR0_16.out HB.out) | (with_reducible refine Kd.C_alloc ?_ _) | (with_reducible refine Kd.C_drewN ?_ _) | (with_reducible refine Kd.C_drew ?_))); (case side4 => exact HC0_16.out); (case side5 => repeat (first | exact (Kd.C_below HR0_17.out HB.out) | (with_reducible refine Kd.C_alloc ?_ _) | (with_reducible refine Kd.C_drewN ?_ _) | (with_reducible refine Kd.C_drew ?_))); (case side6 => exact HC0_17.out); (case side7 => repeat (first | exact (Kd.C_below HR0_18.out HB.out) | (with_reducible refine Kd.C_alloc ?_ _) | (with_reducible refine Kd.C_drewN ?_ _) | (with_reducible refine Kd.C_drew ?_))); (case side8 => exact HC0_18.out); rintro e w10 ⟨rfl, hb⟩; refine ⟨_, rfl, ?_⟩; have n0_ := Aside0.mk (blk_below (g := gb118) (o := .cells #[.int .i64 a0_0, .int .i64 a0_1, .int .i64 a0_2, .bool a0_3, .bool a0_4, .bool a0_5, .bool a0_6, .bool a0_7, .int .i64 a0_8, .int .i64 a0_9, .int .i64 a0_10, .int .i64 a0_11, .int .i64 a0_12, .int .i64 a0_13, .int .i64 a0_14, .slice A0_15 l0_15.length c0_15, .slice A0_16 l0_16.length c0_16, .slice A0_17 l0_17.length c0_17, .slice A0_18 l0_18.length c0_18, .int .i64 a0_19, .int .i64 a0_20] 67 (0, 0)) (by (with_reducible repeat (first | refine blk_drewN ?_ _ | refine blk_drew ?_ | refine blk_alloc ?_ _)); exact BK118.out) hb); have n1_ := Aside0.mk (below_step (by repeat (first | (with_reducible first | exact HB.out | apply below_alloc | apply pw_below_drewN | apply below_drew1 | refine below_set ?_ GE118.out) | exact HB.out)) hb); clear BK118; clear HB; have BK118 := n0_; have HB := n1_; clear n0_ n1_; (try clear hb); (try clear hb2); (try clear hk); (try clear hi)))
    go_ret
    exact ⟨by first | rfl | (simp [errW_none, errW_some] <;> rfl) | (simp [*, errW_none, errW_some] <;> rfl), by repeat (first | (with_reducible first | exact HB.out | apply below_alloc | apply pw_below_drewN | apply below_drew1 | refine below_set ?_ GE118.out) | exact HB.out)⟩
end Go.Proofs.Ytdoclpgciadjaaa.P

namespace Go.Proofs.Ytdoclpgciadjaaa.P
open Go Go.RowKit Go.Proofs.YtdoclpgciadjaaaW.PrintWords
set_option linter.unusedVariables false
theorem toCore_ev (a0 a1 a2 : Int) (b3 b4 b5 b6 b7 : Bool) (a8 a9 a10 a b c d : Int) (l4 : List S144) (l5 : List S209) (l6 : List S46) (l7 : List S212) (x y : Int) (h4 : l4.length ≤ 10000000) (h5 : l5.length ≤ 10000000) (h6 : l6.length ≤ 10000000) (h7 : l7.length ≤ 10000000) (d5 : ∀ x ∈ l5, x.f3.f4.length ≤ 10000000) (d6 : ∀ x ∈ l6, x.f4.length ≤ 10000000) (d7 : ∀ x ∈ l7, x.f3.f4.length ≤ 10000000) : Ev (fun k => laws_toCore.f k a0 a1 a2 b3 b4 b5 b6 b7 a8 a9 a10 a b c d l4 l5 l6 l7 x y) (a0, a1, a2, b3, b4, b5, b6, b7, a8, a9, a10, a, b, c, d, l4.map cFilter, l5.map cBox, l6.map cFrame, l7.map cEvent, x, y) := by
  unfold laws_toCore.f
  exact Ev.bind (toHost_ev a b c d l4 l5 l6 l7 x y h4 h5 h6 h7 d5 d6 d7) (Ev.now _)
theorem eqCore_ev (a0 a1 a2 : Int) (b3 b4 b5 b6 b7 : Bool) (a8 a9 a10 a b c d : Int) (l4 : List S142) (l5 : List S139) (l6 : List S25) (l7 : List S200) (x y : Int) (h4 : l4.length ≤ 10000000) (h5 : l5.length ≤ 10000000) (h6 : l6.length ≤ 10000000) (h7 : l7.length ≤ 10000000) (d5 : ∀ x ∈ l5, x.f3.f4.length ≤ 10000000) (d6 : ∀ x ∈ l6, x.f4.length ≤ 10000000) (d7 : ∀ x ∈ l7, x.f3.f4.length ≤ 10000000) : Ev (fun k => laws_eqCore.f k a0 a1 a2 b3 b4 b5 b6 b7 a8 a9 a10 a b c d l4 l5 l6 l7 x y a0 a1 a2 b3 b4 b5 b6 b7 a8 a9 a10 a b c d l4 l5 l6 l7 x y) true := by
  unfold laws_eqCore.f
  simp only [bne_self_eq_false, Bool.false_eq_true, if_true, if_false]
  exact Ev.bind (eqHost_ev a b c d l4 l5 l6 l7 x y h4 h5 h6 h7 d5 d6 d7) (ev_pos rfl (Ev.now _))
theorem szCore_ev (a0 a1 a2 : Int) (b3 b4 b5 b6 b7 : Bool) (a8 a9 a10 a b c d : Int) (l4 : List S144) (l5 : List S209) (l6 : List S46) (l7 : List S212) (x y m : Int) (h4 : l4.length ≤ maxLen) (h5 : l5.length ≤ maxLen) (h6 : l6.length ≤ maxLen) (h7 : l7.length ≤ maxLen) (d5 : ∀ x ∈ l5, x.f3.f4.length ≤ maxLen) (d6 : ∀ x ∈ l6, x.f4.length ≤ maxLen) (d7 : ∀ x ∈ l7, x.f3.f4.length ≤ maxLen) (h0 : 0 ≤ m) (h1 : m ≤ 1048576) : ∃ r, Ev (fun k => laws_szCore.f k a0 a1 a2 b3 b4 b5 b6 b7 a8 a9 a10 a b c d l4 l5 l6 l7 x y m) r ∧ (0 ≤ r → (l4.length ≤ m ∧ l5.length ≤ m ∧ l6.length ≤ m ∧ l7.length ≤ m) ∧ (∀ x ∈ l5, x.f3.f4.length ≤ m) ∧ (∀ x ∈ l6, x.f4.length ≤ m) ∧ (∀ x ∈ l7, x.f3.f4.length ≤ m)) := by
  obtain ⟨r, hr, hb⟩ := szHost_ev a b c d l4 l5 l6 l7 x y m h4 h5 h6 h7 d5 d6 d7 h0 h1
  unfold laws_szCore.f
  by_cases c0 : r < 0
  · exact ⟨-1, Ev.bind hr (ev_pos c0 (Ev.now _)), fun h => absurd h (by omega)⟩
  · exact ⟨r, Ev.bind hr (ev_neg c0 (Ev.now _)), hb⟩
end Go.Proofs.Ytdoclpgciadjaaa.P

namespace Go.Proofs.Ytdoclpgciadjaaa.P
open Go Go.RowKit Go.Deep Go.Proofs.YtdoclpgciadjaaaW.PrintWords
set_option linter.unusedVariables false
def Reads (P : Program) (t : TypeId) {α : Type} (d : Kd α) (B : α → Prop) : Prop :=
  ∀ (H : Type) (enc : TypeId × Value → H) (w : World) (base : Nat) (spare : Nat → Bool) (held : Bool) (fuel : Nat) (cs : List Value) (x : DataW H × List MemPlace), DataW.trod enc P w base spare held fuel t cs = some x → ∃ v : α, d.K w v cs ∧ B v
theorem reads_int {P : Program} {t : TypeId} {k : IntKind} (h : P.underlying t = some (.int k)) : Reads P t (Kd.int k) (fun n => (Lit.int k n).wf = true) := by
  intro H enc w base spare held fuel cs x hx
  obtain ⟨n, hc, _, hw⟩ := DataW.trod_int h hx
  exact ⟨n, hc, hw⟩
theorem reads_bool {P : Program} {t : TypeId} (h : P.underlying t = some .bool) : Reads P t Kd.bool (fun _ => True) := by
  intro H enc w base spare held fuel cs x hx
  obtain ⟨n, hc, _⟩ := DataW.trod_bool h hx
  exact ⟨n, hc, trivial⟩
theorem reads_slice {P : Program} {t e : TypeId} {α : Type} {d : Kd α} {B : α → Prop} (h : P.underlying t = some (.slice e)) (hc : P.cellsOf e = d.sz) (hd : Reads P e d B) : Reads P t (Kd.slice e d) (fun xs => xs.length ≤ maxLen ∧ ∀ x ∈ xs, B x) := by
  intro H enc w base spare held fuel cs x hx
  rcases open_slice h hx with ⟨rfl, _⟩ | ⟨a, len, cap, m, n, D, Pl, rfl, _, hl, hm, hmm, _, hi⟩
  · exact ⟨[], ⟨none, 0, rfl, Nat.le_refl _, rfl, by simp, fun h => absurd h (by simp)⟩, by simp [maxLen], fun x hx => by cases hx⟩
  · have hlm : len ≤ m := by rw [hmm]; split <;> omega
    have key : ∀ i : Fin len, ∃ v : α, B v ∧ ∃ c, c.length = d.sz ∧ d.K w v c ∧ ∀ j u, c[j]? = some u → w.cell? (a.add (i.val * d.sz + j)) = some u := by
      intro i
      obtain ⟨cs', h1, h2⟩ := hi i.val (by omega)
      obtain ⟨v, hk, hb⟩ := hd H enc w base spare held n cs' _ h2
      obtain ⟨_, hcl, hat⟩ := World.cells?_some h1
      refine ⟨v, hb, cs', d.K_len hk, hk, fun j u hj => ?_⟩
      have hjl : j < cs'.length := (List.getElem?_eq_some_iff.1 hj).1
      have := hat j (by omega)
      rw [← hc, ← Go.Deep.add_add, this, hj]
    have hv : ∃ f : Fin len → α, ∀ i, B (f i) ∧ ∃ c, c.length = d.sz ∧ d.K w (f i) c ∧ ∀ j u, c[j]? = some u → w.cell? (a.add (i.val * d.sz + j)) = some u := ⟨fun i => (key i).choose, fun i => (key i).choose_spec⟩
    obtain ⟨f, hf⟩ := hv
    have hml : len ≤ 9223372036854775807 := by simp only [maxLen] at hm; omega
    refine ⟨List.ofFn f, ⟨some a, cap, by rw [List.length_ofFn], by rw [List.length_ofFn]; exact hl, rfl, by rw [List.length_ofFn]; exact hml, fun _ => ⟨a, rfl, fun j p hj => ?_⟩⟩, by rw [List.length_ofFn]; omega, fun x hx => ?_⟩
    · obtain ⟨hjl, rfl⟩ := List.getElem?_eq_some_iff.1 hj
      rw [List.length_ofFn] at hjl
      rw [List.getElem_ofFn]
      obtain ⟨_, c, h1, h2, h3⟩ := hf ⟨j, hjl⟩
      exact ⟨c, h1, h2, h3⟩
    · obtain ⟨i, rfl⟩ := (List.mem_ofFn).1 hx
      exact (hf i).1
def ReadsFields (P : Program) (fs : List Field) (o : Nat) {α : Type} (d : Kd α) (B : α → Prop) : Prop :=
  ∀ (H : Type) (enc : TypeId × Value → H) (w : World) (base : Nat) (spare : Nat → Bool) (held : Bool) (fuel : Nat) (cs : List Value), cs.length = o + d.sz →
    (∀ f ∈ fs, ∃ x, DataW.trod enc P w base spare held fuel f.type ((cs.drop f.offset).take (P.cellsOf f.type)) = some x) → ∃ v : α, d.K w v (cs.drop o) ∧ B v
theorem rf_last {P : Program} {f : Field} {o : Nat} {α : Type} {d : Kd α} {B : α → Prop} (ho : f.offset = o) (hc : P.cellsOf f.type = d.sz) (hd : Reads P f.type d B) : ReadsFields P [f] o d B := by
  intro H enc w base spare held fuel cs hl hf
  obtain ⟨x, hx⟩ := hf f (by simp)
  rw [ho, hc, List.take_of_length_le (by rw [List.length_drop]; omega)] at hx
  exact hd H enc w base spare held fuel _ _ hx
theorem rf_cons {P : Program} {f : Field} {fs : List Field} {o : Nat} {α β : Type} {a : Kd α} {b : Kd β} {A : α → Prop} {B : β → Prop} (ho : f.offset = o) (hc : P.cellsOf f.type = a.sz) (ha : Reads P f.type a A) (hb : ReadsFields P fs (o + a.sz) b B) :
    ReadsFields P (f :: fs) o (Kd.pair a b) (fun x => A x.1 ∧ B x.2) := by
  intro H enc w base spare held fuel cs hl hf
  have hl' : cs.length = o + (a.sz + b.sz) := hl
  obtain ⟨x, hx⟩ := hf f List.mem_cons_self
  rw [ho, hc] at hx
  obtain ⟨v, hv, hA⟩ := ha H enc w base spare held fuel _ _ hx
  obtain ⟨u, hu, hB⟩ := hb H enc w base spare held fuel cs (by omega) (fun g hg => hf g (List.mem_cons_of_mem _ hg))
  refine ⟨(v, u), ⟨(cs.drop o).take a.sz, cs.drop (o + a.sz), ?_, hv, hu⟩, hA, hB⟩
  rw [← List.drop_drop, List.take_append_drop]
theorem reads_struct {P : Program} {t : TypeId} {fs : Array Field} {α β : Type} {d : Kd α} {B : α → Prop} (f : β → α) (g : α → β) (hfg : ∀ x, f (g x) = x) (h : P.underlying t = some (.struct fs)) (hc : P.cellsOf t = d.sz) (hr : ReadsFields P fs.toList 0 d B) : Reads P t (Kd.iso d f) (fun x => B (f x)) := by
  intro H enc w base spare held fuel cs x hx
  obtain ⟨xs, n, _, _, hl, hxl, hg⟩ := DataW.trod_struct h hx
  obtain ⟨v, hv, hB⟩ := hr H enc w base spare held n cs (by rw [hl, hc]; omega) (fun fd hfd => by
    obtain ⟨i, hi, rfl⟩ := List.getElem_of_mem hfd
    have hi' : i < fs.size := by simpa using hi
    have := hg i fs[i] (by rw [Array.getElem?_eq_getElem hi'])
    rw [List.getElem?_eq_getElem (show i < xs.length by omega)] at this
    rw [Array.getElem_toList]
    exact ⟨_, this⟩)
  refine ⟨g v, ?_, by show B (f (g v)); rw [hfg]; exact hB⟩
  show d.K w (f (g v)) cs
  rw [hfg]
  exact hv
end Go.Proofs.Ytdoclpgciadjaaa.P

namespace Go.Proofs.Ytdoclpgciadjaaa.P
open Go.RowKit Go.Proofs.YtdoclpgciadjaaaW.PrintWords Go.Proofs.YtdoclpgciadjaaaW.PrintLast Go.Proofs.YtdoclpgciadjaaaW.PrintMore
set_option linter.unusedVariables false
set_option linter.unusedSimpArgs false
def b59 (x : S59) : Prop := (Lit.int .i64 x.f0).wf = true ∧ (Lit.int .i64 x.f1).wf = true ∧ (Lit.int .i64 x.f2).wf = true ∧ (Lit.int .i64 x.f3).wf = true
theorem reads59 : Reads Try.prog 59 k59 b59 := reads_struct (fun x : S59 => (x.f0, x.f1, x.f2, x.f3)) (fun y => ⟨y.1, y.2.1, y.2.2.1, y.2.2.2⟩) (fun _ => rfl) Try.underlying59 (by kernel_rfl) (rf_cons rfl (by kernel_rfl) (reads_int Try.underlying3) (rf_cons rfl (by kernel_rfl) (reads_int Try.underlying3) (rf_cons rfl (by kernel_rfl) (reads_int Try.underlying3) (rf_last rfl (by kernel_rfl) (reads_int Try.underlying3)))))
def b144 (x : S144) : Prop := True ∧ (Lit.int .u32 x.f1).wf = true ∧ (Lit.int .u32 x.f2).wf = true
theorem reads144 : Reads Try.prog 144 k144 b144 := reads_struct (fun x : S144 => (x.f0, x.f1, x.f2)) (fun y => ⟨y.1, y.2.1, y.2.2⟩) (fun _ => rfl) Try.underlying144 (by kernel_rfl) (rf_cons rfl (by kernel_rfl) (reads_bool Try.underlying4) (rf_cons rfl (by kernel_rfl) (reads_int Try.underlying23) (rf_last rfl (by kernel_rfl) (reads_int Try.underlying23))))
def b46 (x : S46) : Prop := True ∧ (Lit.int .u32 x.f1).wf = true ∧ True ∧ (Lit.int .i64 x.f3).wf = true ∧ (x.f4.length ≤ maxLen ∧ ∀ y_ ∈ x.f4, (Lit.int .u8 y_).wf = true)
theorem reads46 : Reads Try.prog 46 k46 b46 := reads_struct (fun x : S46 => (x.f0, x.f1, x.f2, x.f3, x.f4)) (fun y => ⟨y.1, y.2.1, y.2.2.1, y.2.2.2.1, y.2.2.2.2⟩) (fun _ => rfl) Try.underlying46 (by kernel_rfl) (rf_cons rfl (by kernel_rfl) (reads_bool Try.underlying4) (rf_cons rfl (by kernel_rfl) (reads_int Try.underlying23) (rf_cons rfl (by kernel_rfl) (reads_bool Try.underlying4) (rf_cons rfl (by kernel_rfl) (reads_int Try.underlying3) (rf_last rfl (by kernel_rfl) (reads_slice Try.underlying22 (by kernel_rfl) (reads_int Try.underlying5)))))))
def b209 (x : S209) : Prop := (Lit.int .i64 x.f0).wf = true ∧ (Lit.int .i64 x.f1).wf = true ∧ (Lit.int .i64 x.f2).wf = true ∧ b46 x.f3
theorem reads209 : Reads Try.prog 209 k209 b209 := reads_struct (fun x : S209 => (x.f0, x.f1, x.f2, x.f3)) (fun y => ⟨y.1, y.2.1, y.2.2.1, y.2.2.2⟩) (fun _ => rfl) Try.underlying209 (by kernel_rfl) (rf_cons rfl (by kernel_rfl) (reads_int Try.underlying3) (rf_cons rfl (by kernel_rfl) (reads_int Try.underlying3) (rf_cons rfl (by kernel_rfl) (reads_int Try.underlying3) (rf_last rfl (by kernel_rfl) reads46))))
def b212 (x : S212) : Prop := (Lit.int .i64 x.f0).wf = true ∧ (Lit.int .i64 x.f1).wf = true ∧ (Lit.int .i64 x.f2).wf = true ∧ b46 x.f3
theorem reads212 : Reads Try.prog 212 k212 b212 := reads_struct (fun x : S212 => (x.f0, x.f1, x.f2, x.f3)) (fun y => ⟨y.1, y.2.1, y.2.2.1, y.2.2.2⟩) (fun _ => rfl) Try.underlying212 (by kernel_rfl) (rf_cons rfl (by kernel_rfl) (reads_int Try.underlying3) (rf_cons rfl (by kernel_rfl) (reads_int Try.underlying3) (rf_cons rfl (by kernel_rfl) (reads_int Try.underlying3) (rf_last rfl (by kernel_rfl) reads46))))
def b65 (x : S65) : Prop := b59 x.f0 ∧ (x.f1.length ≤ maxLen ∧ ∀ y_ ∈ x.f1, b144 y_) ∧ (x.f2.length ≤ maxLen ∧ ∀ y_ ∈ x.f2, b209 y_) ∧ (x.f3.length ≤ maxLen ∧ ∀ y_ ∈ x.f3, b46 y_) ∧ (x.f4.length ≤ maxLen ∧ ∀ y_ ∈ x.f4, b212 y_) ∧ (Lit.int .i64 x.f5).wf = true ∧ (Lit.int .i64 x.f6).wf = true
theorem reads65 : Reads Try.prog 65 k65 b65 := reads_struct (fun x : S65 => (x.f0, x.f1, x.f2, x.f3, x.f4, x.f5, x.f6)) (fun y => ⟨y.1, y.2.1, y.2.2.1, y.2.2.2.1, y.2.2.2.2.1, y.2.2.2.2.2.1, y.2.2.2.2.2.2⟩) (fun _ => rfl) Try.underlying65 (by kernel_rfl) (rf_cons rfl (by kernel_rfl) reads59 (rf_cons rfl (by kernel_rfl) (reads_slice Try.underlying60 (by kernel_rfl) reads144) (rf_cons rfl (by kernel_rfl) (reads_slice Try.underlying61 (by kernel_rfl) reads209) (rf_cons rfl (by kernel_rfl) (reads_slice Try.underlying62 (by kernel_rfl) reads46) (rf_cons rfl (by kernel_rfl) (reads_slice Try.underlying63 (by kernel_rfl) reads212) (rf_cons rfl (by kernel_rfl) (reads_int Try.underlying3) (rf_last rfl (by kernel_rfl) (reads_int Try.underlying3))))))))
def b67 (x : S67) : Prop := (Lit.int .i64 x.f0).wf = true ∧ (Lit.int .i64 x.f1).wf = true ∧ (Lit.int .i64 x.f2).wf = true ∧ True ∧ True ∧ True ∧ True ∧ True ∧ (Lit.int .i64 x.f8).wf = true ∧ (Lit.int .i64 x.f9).wf = true ∧ (Lit.int .i64 x.f10).wf = true ∧ b65 x.f11
theorem reads67 : Reads Try.prog 67 k67 b67 := reads_struct (fun x : S67 => (x.f0, x.f1, x.f2, x.f3, x.f4, x.f5, x.f6, x.f7, x.f8, x.f9, x.f10, x.f11)) (fun y => ⟨y.1, y.2.1, y.2.2.1, y.2.2.2.1, y.2.2.2.2.1, y.2.2.2.2.2.1, y.2.2.2.2.2.2.1, y.2.2.2.2.2.2.2.1, y.2.2.2.2.2.2.2.2.1, y.2.2.2.2.2.2.2.2.2.1, y.2.2.2.2.2.2.2.2.2.2.1, y.2.2.2.2.2.2.2.2.2.2.2⟩) (fun _ => rfl) Try.underlying67 (by kernel_rfl) (rf_cons rfl (by kernel_rfl) (reads_int Try.underlying3) (rf_cons rfl (by kernel_rfl) (reads_int Try.underlying3) (rf_cons rfl (by kernel_rfl) (reads_int Try.underlying3) (rf_cons rfl (by kernel_rfl) (reads_bool Try.underlying4) (rf_cons rfl (by kernel_rfl) (reads_bool Try.underlying4) (rf_cons rfl (by kernel_rfl) (reads_bool Try.underlying4) (rf_cons rfl (by kernel_rfl) (reads_bool Try.underlying4) (rf_cons rfl (by kernel_rfl) (reads_bool Try.underlying4) (rf_cons rfl (by kernel_rfl) (reads_int Try.underlying3) (rf_cons rfl (by kernel_rfl) (reads_int Try.underlying3) (rf_cons rfl (by kernel_rfl) (reads_int Try.underlying3) (rf_last rfl (by kernel_rfl) reads65))))))))))))
end Go.Proofs.Ytdoclpgciadjaaa.P

namespace Go.Proofs.Ytdoclpgciadjaaa.P
open Go.RowKit Go.Proofs.YtdoclpgciadjaaaW.PrintWords Go.Proofs.YtdoclpgciadjaaaW.PrintLast Go.Proofs.YtdoclpgciadjaaaW.PrintMore
set_option linter.unusedVariables false
set_option linter.unusedSimpArgs false
def IsS131 (w0 W : World) (g : Nat) (f0 : Int) (f1 : Int) (f2 : Int) (f3 : Bool) (f4 : Bool) (f5 : Bool) (f6 : Bool) (f7 : Bool) (f8 : Int) (f9 : Int) (f10 : Int) (f11 : Int) : Prop := W.heap[g]? = some (.cells #[.int .i64 f0, .int .i64 f1, .int .i64 f2, .bool f3, .bool f4, .bool f5, .bool f6, .bool f7, .int .i64 f8, .int .i64 f9, .int .i64 f10, .int .i64 f11] 131 (0, 0)) ∧ w0.heap.size ≤ g
theorem IsS131.grown {w0 W : World} {g : Nat} {f0 : Int} {f1 : Int} {f2 : Int} {f3 : Bool} {f4 : Bool} {f5 : Bool} {f6 : Bool} {f7 : Bool} {f8 : Int} {f9 : Int} {f10 : Int} {f11 : Int} {W1 : World} {row : Option Nat} (h : IsS131 w0 W g f0 f1 f2 f3 f4 f5 f6 f7 f8 f9 f10 f11) (hw : W.grownBy W1 row) (hne : some g ≠ row) : IsS131 w0 W1 g f0 f1 f2 f3 f4 f5 f6 f7 f8 f9 f10 f11 := by
  obtain ⟨hb, hg⟩ := h
  exact ⟨blk_grown hb hw hne, hg⟩
theorem IsS131.kept {w0 W : World} {g : Nat} {f0 : Int} {f1 : Int} {f2 : Int} {f3 : Bool} {f4 : Bool} {f5 : Bool} {f6 : Bool} {f7 : Bool} {f8 : Int} {f9 : Int} {f10 : Int} {f11 : Int} {W1 : World} {S : Nat → Prop} (h : IsS131 w0 W g f0 f1 f2 f3 f4 f5 f6 f7 f8 f9 f10 f11) (hk : Kept W W1 S) (hne : ¬ S g) : IsS131 w0 W1 g f0 f1 f2 f3 f4 f5 f6 f7 f8 f9 f10 f11 := by
  obtain ⟨hb, hg⟩ := h
  exact ⟨blk_kept hb hk hne, hg⟩
theorem IsS131.below {w0 W : World} {g : Nat} {f0 : Int} {f1 : Int} {f2 : Int} {f3 : Bool} {f4 : Bool} {f5 : Bool} {f6 : Bool} {f7 : Bool} {f8 : Int} {f9 : Int} {f10 : Int} {f11 : Int} {W1 : World} (h : IsS131 w0 W g f0 f1 f2 f3 f4 f5 f6 f7 f8 f9 f10 f11) (hw : Below W.heap.size W W1) : IsS131 w0 W1 g f0 f1 f2 f3 f4 f5 f6 f7 f8 f9 f10 f11 := h.grown (grown_of_below hw none) (by simp)
theorem IsS131.alloc {w0 W : World} {g : Nat} {f0 : Int} {f1 : Int} {f2 : Int} {f3 : Bool} {f4 : Bool} {f5 : Bool} {f6 : Bool} {f7 : Bool} {f8 : Int} {f9 : Int} {f10 : Int} {f11 : Int} (h : IsS131 w0 W g f0 f1 f2 f3 f4 f5 f6 f7 f8 f9 f10 f11) (o : Obj) : IsS131 w0 (W.alloc o) g f0 f1 f2 f3 f4 f5 f6 f7 f8 f9 f10 f11 := h.below (below_alloc (Below.refl _ _) o)
theorem IsS131.drewN {w0 W : World} {g : Nat} {f0 : Int} {f1 : Int} {f2 : Int} {f3 : Bool} {f4 : Bool} {f5 : Bool} {f6 : Bool} {f7 : Bool} {f8 : Int} {f9 : Int} {f10 : Int} {f11 : Int} (h : IsS131 w0 W g f0 f1 f2 f3 f4 f5 f6 f7 f8 f9 f10 f11) (m : Nat) : IsS131 w0 (W.drewN m) g f0 f1 f2 f3 f4 f5 f6 f7 f8 f9 f10 f11 := h
theorem IsS131.drew {w0 W : World} {g : Nat} {f0 : Int} {f1 : Int} {f2 : Int} {f3 : Bool} {f4 : Bool} {f5 : Bool} {f6 : Bool} {f7 : Bool} {f8 : Int} {f9 : Int} {f10 : Int} {f11 : Int} (h : IsS131 w0 W g f0 f1 f2 f3 f4 f5 f6 f7 f8 f9 f10 f11) : IsS131 w0 W.drew g f0 f1 f2 f3 f4 f5 f6 f7 f8 f9 f10 f11 := h
theorem IsS131.at_ {w0 W : World} {g : Nat} {f0 : Int} {f1 : Int} {f2 : Int} {f3 : Bool} {f4 : Bool} {f5 : Bool} {f6 : Bool} {f7 : Bool} {f8 : Int} {f9 : Int} {f10 : Int} {f11 : Int} {w' : World} {m : Nat} (hq : W.drewN m = w') (h : IsS131 w0 W g f0 f1 f2 f3 f4 f5 f6 f7 f8 f9 f10 f11) : IsS131 w0 w' g f0 f1 f2 f3 f4 f5 f6 f7 f8 f9 f10 f11 := by subst hq; exact IsS131.drewN h m
theorem IsS131.apart {w0 W : World} {g : Nat} {f0 : Int} {f1 : Int} {f2 : Int} {f3 : Bool} {f4 : Bool} {f5 : Bool} {f6 : Bool} {f7 : Bool} {f8 : Int} {f9 : Int} {f10 : Int} {f11 : Int} {α : Type} {d : Kd α} {e : Nat} {base : Nat} {ok : Nat → Prop} {v : Value} {xs : List α} (h : IsS131 w0 W g f0 f1 f2 f3 f4 f5 f6 f7 f8 f9 f10 f11) (ho : d.R e W base ok v xs) (ht : ∀ q, q ∈ e :: d.E → q ≠ 131) : d.R e W base (fun k => ok k ∧ k ≠ g) v xs := by
  obtain ⟨hb, hg⟩ := h
  exact Kd.R_types ho hb ht
theorem IsS131.own_ne {w0 W : World} {g : Nat} {f0 : Int} {f1 : Int} {f2 : Int} {f3 : Bool} {f4 : Bool} {f5 : Bool} {f6 : Bool} {f7 : Bool} {f8 : Int} {f9 : Int} {f10 : Int} {f11 : Int} {α : Type} {d : Kd α} {e : Nat} {base : Nat} {ok : Nat → Prop} {v : Value} {xs : List α} (h : IsS131 w0 W g f0 f1 f2 f3 f4 f5 f6 f7 f8 f9 f10 f11) (ho : d.R e W base ok v xs) (ht : e ≠ 131) : some g ≠ v.ownBlock := by
  obtain ⟨hb, hg⟩ := h
  exact Kd.R_ne ho hb ht
theorem IsS131.ge {w0 W : World} {g : Nat} {f0 : Int} {f1 : Int} {f2 : Int} {f3 : Bool} {f4 : Bool} {f5 : Bool} {f6 : Bool} {f7 : Bool} {f8 : Int} {f9 : Int} {f10 : Int} {f11 : Int} (h : IsS131 w0 W g f0 f1 f2 f3 f4 f5 f6 f7 f8 f9 f10 f11) : w0.heap.size ≤ g := by
  obtain ⟨hb, hg⟩ := h
  exact hg
theorem cellS131_0 {W : World} {g : Nat} {f0 : Int} {f1 : Int} {f2 : Int} {f3 : Bool} {f4 : Bool} {f5 : Bool} {f6 : Bool} {f7 : Bool} {f8 : Int} {f9 : Int} {f10 : Int} {f11 : Int} (h : W.heap[g]? = some (.cells #[.int .i64 f0, .int .i64 f1, .int .i64 f2, .bool f3, .bool f4, .bool f5, .bool f6, .bool f7, .int .i64 f8, .int .i64 f9, .int .i64 f10, .int .i64 f11] 131 (0, 0))) : W.cell? ⟨g, 0, none⟩ = some (.int .i64 f0) := (blk_cell h 0).trans rfl
theorem IsS131.set_0 {w0 W : World} {g : Nat} {f0 : Int} {f1 : Int} {f2 : Int} {f3 : Bool} {f4 : Bool} {f5 : Bool} {f6 : Bool} {f7 : Bool} {f8 : Int} {f9 : Int} {f10 : Int} {f11 : Int} (h : IsS131 w0 W g f0 f1 f2 f3 f4 f5 f6 f7 f8 f9 f10 f11) (x : Int) : IsS131 w0 (W.setCell ⟨g, 0, none⟩ (.int .i64 x)) g x f1 f2 f3 f4 f5 f6 f7 f8 f9 f10 f11 := by
  obtain ⟨hb, hg⟩ := h
  exact ⟨by simpa using blk_set hb 0 (.int .i64 x), hg⟩
theorem cellS131_1 {W : World} {g : Nat} {f0 : Int} {f1 : Int} {f2 : Int} {f3 : Bool} {f4 : Bool} {f5 : Bool} {f6 : Bool} {f7 : Bool} {f8 : Int} {f9 : Int} {f10 : Int} {f11 : Int} (h : W.heap[g]? = some (.cells #[.int .i64 f0, .int .i64 f1, .int .i64 f2, .bool f3, .bool f4, .bool f5, .bool f6, .bool f7, .int .i64 f8, .int .i64 f9, .int .i64 f10, .int .i64 f11] 131 (0, 0))) : W.cell? ⟨g, 1, none⟩ = some (.int .i64 f1) := (blk_cell h 1).trans rfl
theorem IsS131.set_1 {w0 W : World} {g : Nat} {f0 : Int} {f1 : Int} {f2 : Int} {f3 : Bool} {f4 : Bool} {f5 : Bool} {f6 : Bool} {f7 : Bool} {f8 : Int} {f9 : Int} {f10 : Int} {f11 : Int} (h : IsS131 w0 W g f0 f1 f2 f3 f4 f5 f6 f7 f8 f9 f10 f11) (x : Int) : IsS131 w0 (W.setCell ⟨g, 1, none⟩ (.int .i64 x)) g f0 x f2 f3 f4 f5 f6 f7 f8 f9 f10 f11 := by
  obtain ⟨hb, hg⟩ := h
  exact ⟨by simpa using blk_set hb 1 (.int .i64 x), hg⟩
theorem cellS131_2 {W : World} {g : Nat} {f0 : Int} {f1 : Int} {f2 : Int} {f3 : Bool} {f4 : Bool} {f5 : Bool} {f6 : Bool} {f7 : Bool} {f8 : Int} {f9 : Int} {f10 : Int} {f11 : Int} (h : W.heap[g]? = some (.cells #[.int .i64 f0, .int .i64 f1, .int .i64 f2, .bool f3, .bool f4, .bool f5, .bool f6, .bool f7, .int .i64 f8, .int .i64 f9, .int .i64 f10, .int .i64 f11] 131 (0, 0))) : W.cell? ⟨g, 2, none⟩ = some (.int .i64 f2) := (blk_cell h 2).trans rfl
theorem IsS131.set_2 {w0 W : World} {g : Nat} {f0 : Int} {f1 : Int} {f2 : Int} {f3 : Bool} {f4 : Bool} {f5 : Bool} {f6 : Bool} {f7 : Bool} {f8 : Int} {f9 : Int} {f10 : Int} {f11 : Int} (h : IsS131 w0 W g f0 f1 f2 f3 f4 f5 f6 f7 f8 f9 f10 f11) (x : Int) : IsS131 w0 (W.setCell ⟨g, 2, none⟩ (.int .i64 x)) g f0 f1 x f3 f4 f5 f6 f7 f8 f9 f10 f11 := by
  obtain ⟨hb, hg⟩ := h
  exact ⟨by simpa using blk_set hb 2 (.int .i64 x), hg⟩
theorem cellS131_3 {W : World} {g : Nat} {f0 : Int} {f1 : Int} {f2 : Int} {f3 : Bool} {f4 : Bool} {f5 : Bool} {f6 : Bool} {f7 : Bool} {f8 : Int} {f9 : Int} {f10 : Int} {f11 : Int} (h : W.heap[g]? = some (.cells #[.int .i64 f0, .int .i64 f1, .int .i64 f2, .bool f3, .bool f4, .bool f5, .bool f6, .bool f7, .int .i64 f8, .int .i64 f9, .int .i64 f10, .int .i64 f11] 131 (0, 0))) : W.cell? ⟨g, 3, none⟩ = some (.bool f3) := (blk_cell h 3).trans rfl
theorem IsS131.set_3 {w0 W : World} {g : Nat} {f0 : Int} {f1 : Int} {f2 : Int} {f3 : Bool} {f4 : Bool} {f5 : Bool} {f6 : Bool} {f7 : Bool} {f8 : Int} {f9 : Int} {f10 : Int} {f11 : Int} (h : IsS131 w0 W g f0 f1 f2 f3 f4 f5 f6 f7 f8 f9 f10 f11) (x : Bool) : IsS131 w0 (W.setCell ⟨g, 3, none⟩ (.bool x)) g f0 f1 f2 x f4 f5 f6 f7 f8 f9 f10 f11 := by
  obtain ⟨hb, hg⟩ := h
  exact ⟨by simpa using blk_set hb 3 (.bool x), hg⟩
theorem cellS131_4 {W : World} {g : Nat} {f0 : Int} {f1 : Int} {f2 : Int} {f3 : Bool} {f4 : Bool} {f5 : Bool} {f6 : Bool} {f7 : Bool} {f8 : Int} {f9 : Int} {f10 : Int} {f11 : Int} (h : W.heap[g]? = some (.cells #[.int .i64 f0, .int .i64 f1, .int .i64 f2, .bool f3, .bool f4, .bool f5, .bool f6, .bool f7, .int .i64 f8, .int .i64 f9, .int .i64 f10, .int .i64 f11] 131 (0, 0))) : W.cell? ⟨g, 4, none⟩ = some (.bool f4) := (blk_cell h 4).trans rfl
theorem IsS131.set_4 {w0 W : World} {g : Nat} {f0 : Int} {f1 : Int} {f2 : Int} {f3 : Bool} {f4 : Bool} {f5 : Bool} {f6 : Bool} {f7 : Bool} {f8 : Int} {f9 : Int} {f10 : Int} {f11 : Int} (h : IsS131 w0 W g f0 f1 f2 f3 f4 f5 f6 f7 f8 f9 f10 f11) (x : Bool) : IsS131 w0 (W.setCell ⟨g, 4, none⟩ (.bool x)) g f0 f1 f2 f3 x f5 f6 f7 f8 f9 f10 f11 := by
  obtain ⟨hb, hg⟩ := h
  exact ⟨by simpa using blk_set hb 4 (.bool x), hg⟩
theorem cellS131_5 {W : World} {g : Nat} {f0 : Int} {f1 : Int} {f2 : Int} {f3 : Bool} {f4 : Bool} {f5 : Bool} {f6 : Bool} {f7 : Bool} {f8 : Int} {f9 : Int} {f10 : Int} {f11 : Int} (h : W.heap[g]? = some (.cells #[.int .i64 f0, .int .i64 f1, .int .i64 f2, .bool f3, .bool f4, .bool f5, .bool f6, .bool f7, .int .i64 f8, .int .i64 f9, .int .i64 f10, .int .i64 f11] 131 (0, 0))) : W.cell? ⟨g, 5, none⟩ = some (.bool f5) := (blk_cell h 5).trans rfl
theorem IsS131.set_5 {w0 W : World} {g : Nat} {f0 : Int} {f1 : Int} {f2 : Int} {f3 : Bool} {f4 : Bool} {f5 : Bool} {f6 : Bool} {f7 : Bool} {f8 : Int} {f9 : Int} {f10 : Int} {f11 : Int} (h : IsS131 w0 W g f0 f1 f2 f3 f4 f5 f6 f7 f8 f9 f10 f11) (x : Bool) : IsS131 w0 (W.setCell ⟨g, 5, none⟩ (.bool x)) g f0 f1 f2 f3 f4 x f6 f7 f8 f9 f10 f11 := by
  obtain ⟨hb, hg⟩ := h
  exact ⟨by simpa using blk_set hb 5 (.bool x), hg⟩
theorem cellS131_6 {W : World} {g : Nat} {f0 : Int} {f1 : Int} {f2 : Int} {f3 : Bool} {f4 : Bool} {f5 : Bool} {f6 : Bool} {f7 : Bool} {f8 : Int} {f9 : Int} {f10 : Int} {f11 : Int} (h : W.heap[g]? = some (.cells #[.int .i64 f0, .int .i64 f1, .int .i64 f2, .bool f3, .bool f4, .bool f5, .bool f6, .bool f7, .int .i64 f8, .int .i64 f9, .int .i64 f10, .int .i64 f11] 131 (0, 0))) : W.cell? ⟨g, 6, none⟩ = some (.bool f6) := (blk_cell h 6).trans rfl
theorem IsS131.set_6 {w0 W : World} {g : Nat} {f0 : Int} {f1 : Int} {f2 : Int} {f3 : Bool} {f4 : Bool} {f5 : Bool} {f6 : Bool} {f7 : Bool} {f8 : Int} {f9 : Int} {f10 : Int} {f11 : Int} (h : IsS131 w0 W g f0 f1 f2 f3 f4 f5 f6 f7 f8 f9 f10 f11) (x : Bool) : IsS131 w0 (W.setCell ⟨g, 6, none⟩ (.bool x)) g f0 f1 f2 f3 f4 f5 x f7 f8 f9 f10 f11 := by
  obtain ⟨hb, hg⟩ := h
  exact ⟨by simpa using blk_set hb 6 (.bool x), hg⟩
theorem cellS131_7 {W : World} {g : Nat} {f0 : Int} {f1 : Int} {f2 : Int} {f3 : Bool} {f4 : Bool} {f5 : Bool} {f6 : Bool} {f7 : Bool} {f8 : Int} {f9 : Int} {f10 : Int} {f11 : Int} (h : W.heap[g]? = some (.cells #[.int .i64 f0, .int .i64 f1, .int .i64 f2, .bool f3, .bool f4, .bool f5, .bool f6, .bool f7, .int .i64 f8, .int .i64 f9, .int .i64 f10, .int .i64 f11] 131 (0, 0))) : W.cell? ⟨g, 7, none⟩ = some (.bool f7) := (blk_cell h 7).trans rfl
theorem IsS131.set_7 {w0 W : World} {g : Nat} {f0 : Int} {f1 : Int} {f2 : Int} {f3 : Bool} {f4 : Bool} {f5 : Bool} {f6 : Bool} {f7 : Bool} {f8 : Int} {f9 : Int} {f10 : Int} {f11 : Int} (h : IsS131 w0 W g f0 f1 f2 f3 f4 f5 f6 f7 f8 f9 f10 f11) (x : Bool) : IsS131 w0 (W.setCell ⟨g, 7, none⟩ (.bool x)) g f0 f1 f2 f3 f4 f5 f6 x f8 f9 f10 f11 := by
  obtain ⟨hb, hg⟩ := h
  exact ⟨by simpa using blk_set hb 7 (.bool x), hg⟩
theorem cellS131_8 {W : World} {g : Nat} {f0 : Int} {f1 : Int} {f2 : Int} {f3 : Bool} {f4 : Bool} {f5 : Bool} {f6 : Bool} {f7 : Bool} {f8 : Int} {f9 : Int} {f10 : Int} {f11 : Int} (h : W.heap[g]? = some (.cells #[.int .i64 f0, .int .i64 f1, .int .i64 f2, .bool f3, .bool f4, .bool f5, .bool f6, .bool f7, .int .i64 f8, .int .i64 f9, .int .i64 f10, .int .i64 f11] 131 (0, 0))) : W.cell? ⟨g, 8, none⟩ = some (.int .i64 f8) := (blk_cell h 8).trans rfl
theorem IsS131.set_8 {w0 W : World} {g : Nat} {f0 : Int} {f1 : Int} {f2 : Int} {f3 : Bool} {f4 : Bool} {f5 : Bool} {f6 : Bool} {f7 : Bool} {f8 : Int} {f9 : Int} {f10 : Int} {f11 : Int} (h : IsS131 w0 W g f0 f1 f2 f3 f4 f5 f6 f7 f8 f9 f10 f11) (x : Int) : IsS131 w0 (W.setCell ⟨g, 8, none⟩ (.int .i64 x)) g f0 f1 f2 f3 f4 f5 f6 f7 x f9 f10 f11 := by
  obtain ⟨hb, hg⟩ := h
  exact ⟨by simpa using blk_set hb 8 (.int .i64 x), hg⟩
theorem cellS131_9 {W : World} {g : Nat} {f0 : Int} {f1 : Int} {f2 : Int} {f3 : Bool} {f4 : Bool} {f5 : Bool} {f6 : Bool} {f7 : Bool} {f8 : Int} {f9 : Int} {f10 : Int} {f11 : Int} (h : W.heap[g]? = some (.cells #[.int .i64 f0, .int .i64 f1, .int .i64 f2, .bool f3, .bool f4, .bool f5, .bool f6, .bool f7, .int .i64 f8, .int .i64 f9, .int .i64 f10, .int .i64 f11] 131 (0, 0))) : W.cell? ⟨g, 9, none⟩ = some (.int .i64 f9) := (blk_cell h 9).trans rfl
theorem IsS131.set_9 {w0 W : World} {g : Nat} {f0 : Int} {f1 : Int} {f2 : Int} {f3 : Bool} {f4 : Bool} {f5 : Bool} {f6 : Bool} {f7 : Bool} {f8 : Int} {f9 : Int} {f10 : Int} {f11 : Int} (h : IsS131 w0 W g f0 f1 f2 f3 f4 f5 f6 f7 f8 f9 f10 f11) (x : Int) : IsS131 w0 (W.setCell ⟨g, 9, none⟩ (.int .i64 x)) g f0 f1 f2 f3 f4 f5 f6 f7 f8 x f10 f11 := by
  obtain ⟨hb, hg⟩ := h
  exact ⟨by simpa using blk_set hb 9 (.int .i64 x), hg⟩
theorem cellS131_10 {W : World} {g : Nat} {f0 : Int} {f1 : Int} {f2 : Int} {f3 : Bool} {f4 : Bool} {f5 : Bool} {f6 : Bool} {f7 : Bool} {f8 : Int} {f9 : Int} {f10 : Int} {f11 : Int} (h : W.heap[g]? = some (.cells #[.int .i64 f0, .int .i64 f1, .int .i64 f2, .bool f3, .bool f4, .bool f5, .bool f6, .bool f7, .int .i64 f8, .int .i64 f9, .int .i64 f10, .int .i64 f11] 131 (0, 0))) : W.cell? ⟨g, 10, none⟩ = some (.int .i64 f10) := (blk_cell h 10).trans rfl
theorem IsS131.set_10 {w0 W : World} {g : Nat} {f0 : Int} {f1 : Int} {f2 : Int} {f3 : Bool} {f4 : Bool} {f5 : Bool} {f6 : Bool} {f7 : Bool} {f8 : Int} {f9 : Int} {f10 : Int} {f11 : Int} (h : IsS131 w0 W g f0 f1 f2 f3 f4 f5 f6 f7 f8 f9 f10 f11) (x : Int) : IsS131 w0 (W.setCell ⟨g, 10, none⟩ (.int .i64 x)) g f0 f1 f2 f3 f4 f5 f6 f7 f8 f9 x f11 := by
  obtain ⟨hb, hg⟩ := h
  exact ⟨by simpa using blk_set hb 10 (.int .i64 x), hg⟩
theorem cellS131_11 {W : World} {g : Nat} {f0 : Int} {f1 : Int} {f2 : Int} {f3 : Bool} {f4 : Bool} {f5 : Bool} {f6 : Bool} {f7 : Bool} {f8 : Int} {f9 : Int} {f10 : Int} {f11 : Int} (h : W.heap[g]? = some (.cells #[.int .i64 f0, .int .i64 f1, .int .i64 f2, .bool f3, .bool f4, .bool f5, .bool f6, .bool f7, .int .i64 f8, .int .i64 f9, .int .i64 f10, .int .i64 f11] 131 (0, 0))) : W.cell? ⟨g, 11, none⟩ = some (.int .i64 f11) := (blk_cell h 11).trans rfl
theorem IsS131.set_11 {w0 W : World} {g : Nat} {f0 : Int} {f1 : Int} {f2 : Int} {f3 : Bool} {f4 : Bool} {f5 : Bool} {f6 : Bool} {f7 : Bool} {f8 : Int} {f9 : Int} {f10 : Int} {f11 : Int} (h : IsS131 w0 W g f0 f1 f2 f3 f4 f5 f6 f7 f8 f9 f10 f11) (x : Int) : IsS131 w0 (W.setCell ⟨g, 11, none⟩ (.int .i64 x)) g f0 f1 f2 f3 f4 f5 f6 f7 f8 f9 f10 x := by
  obtain ⟨hb, hg⟩ := h
  exact ⟨by simpa using blk_set hb 11 (.int .i64 x), hg⟩
theorem IsS131.new (w0 W : World) (f0 : Int) (f1 : Int) (f2 : Int) (f3 : Bool) (f4 : Bool) (f5 : Bool) (f6 : Bool) (f7 : Bool) (f8 : Int) (f9 : Int) (f10 : Int) (f11 : Int) (hB : Below w0.heap.size w0 W) : IsS131 w0 (W.alloc (.cells #[.int .i64 f0, .int .i64 f1, .int .i64 f2, .bool f3, .bool f4, .bool f5, .bool f6, .bool f7, .int .i64 f8, .int .i64 f9, .int .i64 f10, .int .i64 f11] 131)) W.heap.size f0 f1 f2 f3 f4 f5 f6 f7 f8 f9 f10 f11 := ⟨by simpa using heap_alloc_new W _, hB.size⟩
def impl_counters_state.f (s0_0 : Int) (s0_1 : Int) (s0_2 : Int) (s0_3 : Bool) (s0_4 : Bool) (s0_5 : Bool) (s0_6 : Bool) (s0_7 : Bool) (s0_8 : Int) (s0_9 : Int) (s0_10 : Int) (s0_11 : Int) : Option (Int × Int × Int × Int × Bool × Bool × Bool × Bool × Bool × Int × Int × Int × Int) := if s0_0 = 7 then (some (2, s0_0, s0_1, s0_2, s0_3, s0_4, s0_5, s0_6, s0_7, s0_8, s0_9, s0_10, s0_11)) else (if (mx s0_9 s0_10) ≥ 128 then (some (1, s0_0, s0_1, s0_2, s0_3, s0_4, s0_5, s0_6, s0_7, s0_8, s0_9, s0_10, s0_11)) else (some (0, s0_0, s0_1, s0_2, s0_3, s0_4, s0_5, s0_6, s0_7, s0_8, s0_9, s0_10, s0_11)))
set_option maxHeartbeats 8000000 in
set_option maxRecDepth 100000 in
theorem impl_counters_state.calls (g : Nat) (s0_0 : Int) (s0_1 : Int) (s0_2 : Int) (s0_3 : Bool) (s0_4 : Bool) (s0_5 : Bool) (s0_6 : Bool) (s0_7 : Bool) (s0_8 : Int) (s0_9 : Int) (s0_10 : Int) (s0_11 : Int) (r1 : Int) (r2 : Int) (r3 : Int) (r4 : Int) (r5 : Bool) (r6 : Bool) (r7 : Bool) (r8 : Bool) (r9 : Bool) (r10 : Int) (r11 : Int) (r12 : Int) (r13 : Int) (w0 w : World) (hI : IsS131 w0 w g s0_0 s0_1 s0_2 s0_3 s0_4 s0_5 s0_6 s0_7 s0_8 s0_9 s0_10 s0_11) (hB : Below w0.heap.size w0 w) (h : impl_counters_state.f s0_0 s0_1 s0_2 s0_3 s0_4 s0_5 s0_6 s0_7 s0_8 s0_9 s0_10 s0_11 = some (r1, r2, r3, r4, r5, r6, r7, r8, r9, r10, r11, r12, r13)) :
    Calls Try.prog 101 #[.pointer (some ⟨g, 0, none⟩)] w fun e w' => e = .returned (.int .i64 r1) ∧ IsS131 w0 w' g r2 r3 r4 r5 r6 r7 r8 r9 r10 r11 r12 r13 ∧ Below w0.heap.size w0 w' ∧ KeepBut w w' g none := by
  have HI0 := Aside0.mk hI
  have HK := Aside0.mk (KeepBut.refl w g none)
  have HL := Aside0.mk hB.size
  clear hI
  have HW0 := Aside0.mk hB.size
  have HB := Aside0.mk hB
  clear hB
  have H : (if s0_0 = 7 then (some (2, s0_0, s0_1, s0_2, s0_3, s0_4, s0_5, s0_6, s0_7, s0_8, s0_9, s0_10, s0_11)) else (if (mx s0_9 s0_10) ≥ 128 then (some (1, s0_0, s0_1, s0_2, s0_3, s0_4, s0_5, s0_6, s0_7, s0_8, s0_9, s0_10, s0_11)) else (some (0, s0_0, s0_1, s0_2, s0_3, s0_4, s0_5, s0_6, s0_7, s0_8, s0_9, s0_10, s0_11)))) = some (r1, r2, r3, r4, r5, r6, r7, r8, r9, r10, r11, r12, r13) := h
  clear h
  by_cases c2 : s0_0 = 7
  · rw [if_pos c2] at H
    have c2b0 : (s0_0 == 7) = true := beq_iff_eq.mpr c2
    have c2b1 : (s0_0 != 7) = false := bne_eq_false_iff_eq.mpr c2
    clear c2
    simp only [Option.some.injEq, Prod.mk.injEq] at H
    obtain ⟨rfl, rfl, rfl, rfl, rfl, rfl, rfl, rfl, rfl, rfl, rfl, rfl, rfl⟩ := H
    obtain ⟨HGz3, hgz3⟩ := HI0.out
    have hcz3_0 := cellS131_0 HGz3
    have hcz3_1 := cellS131_1 HGz3
    have hcz3_2 := cellS131_2 HGz3
    have hcz3_3 := cellS131_3 HGz3
    have hcz3_4 := cellS131_4 HGz3
    have hcz3_5 := cellS131_5 HGz3
    have hcz3_6 := cellS131_6 HGz3
    have hcz3_7 := cellS131_7 HGz3
    have hcz3_8 := cellS131_8 HGz3
    have hcz3_9 := cellS131_9 HGz3
    have hcz3_10 := cellS131_10 HGz3
    have hcz3_11 := cellS131_11 HGz3
    have hfz3_0 := blk_frozen HGz3 0
    have hfz3_1 := blk_frozen HGz3 1
    have hfz3_2 := blk_frozen HGz3 2
    have hfz3_3 := blk_frozen HGz3 3
    have hfz3_4 := blk_frozen HGz3 4
    have hfz3_5 := blk_frozen HGz3 5
    have hfz3_6 := blk_frozen HGz3 6
    have hfz3_7 := blk_frozen HGz3 7
    have hfz3_8 := blk_frozen HGz3 8
    have hfz3_9 := blk_frozen HGz3 9
    have hfz3_10 := blk_frozen HGz3 10
    have hfz3_11 := blk_frozen HGz3 11
    clear HGz3 hgz3
    go_enter Try.func101, Try.ntmps101
    go_wp2
    repeat (go_quiet (fail); try go_wp2)
    go_ret
    exact ⟨by first | rfl | (simp [errW_none, errW_some] <;> rfl) | (simp [*, errW_none, errW_some] <;> rfl), by repeat (first | (with_reducible first | exact HI0.out | apply IsS131.alloc | apply IsS131.drewN | apply IsS131.drew | apply IsS131.set_0 | apply IsS131.set_1 | apply IsS131.set_2 | apply IsS131.set_3 | apply IsS131.set_4 | apply IsS131.set_5 | apply IsS131.set_6 | apply IsS131.set_7 | apply IsS131.set_8 | apply IsS131.set_9 | apply IsS131.set_10 | apply IsS131.set_11) | exact HI0.out), by repeat (first | (with_reducible first | exact HB.out | apply below_alloc | apply pw_below_drewN | apply below_drew1 | refine below_set ?_ (IsS131.ge HI0.out)) | exact HB.out), by repeat (first | (with_reducible first | exact HK.out | apply KeepBut.set_ | apply keep_drewN | apply keep_drew | apply keep_alloc) | exact HK.out)⟩
  · rw [if_neg c2] at H
    have c2b0 : (s0_0 == 7) = false := beq_eq_false_iff_ne.mpr c2
    have c2b1 : (s0_0 != 7) = true := bne_iff_ne.mpr c2
    obtain ⟨ji4, hji4⟩ : ∃ j_ : Int, (mx s0_9 s0_10) = j_ := ⟨_, rfl⟩
    replace H : (if (ji4) ≥ 128 then (some (1, s0_0, s0_1, s0_2, s0_3, s0_4, s0_5, s0_6, s0_7, s0_8, s0_9, s0_10, s0_11)) else (some (0, s0_0, s0_1, s0_2, s0_3, s0_4, s0_5, s0_6, s0_7, s0_8, s0_9, s0_10, s0_11))) = some (r1, r2, r3, r4, r5, r6, r7, r8, r9, r10, r11, r12, r13) := by first | (rw [hji4] at H; exact H) | (simp only [hji4] at H ⊢; exact H)
    have hji4_ : (if s0_9 < s0_10 then s0_10 else s0_9) = ji4 := hji4
    by_cases c5 : (ji4) ≥ 128
    · rw [if_pos c5] at H
      have c5b0 : decide (128 ≤ (ji4)) = true := decide_eq_true c5
      clear c5
      simp only [Option.some.injEq, Prod.mk.injEq] at H
      obtain ⟨rfl, rfl, rfl, rfl, rfl, rfl, rfl, rfl, rfl, rfl, rfl, rfl, rfl⟩ := H
      obtain ⟨HGz6, hgz6⟩ := HI0.out
      have hcz6_0 := cellS131_0 HGz6
      have hcz6_1 := cellS131_1 HGz6
      have hcz6_2 := cellS131_2 HGz6
      have hcz6_3 := cellS131_3 HGz6
      have hcz6_4 := cellS131_4 HGz6
      have hcz6_5 := cellS131_5 HGz6
      have hcz6_6 := cellS131_6 HGz6
      have hcz6_7 := cellS131_7 HGz6
      have hcz6_8 := cellS131_8 HGz6
      have hcz6_9 := cellS131_9 HGz6
      have hcz6_10 := cellS131_10 HGz6
      have hcz6_11 := cellS131_11 HGz6
      have hfz6_0 := blk_frozen HGz6 0
      have hfz6_1 := blk_frozen HGz6 1
      have hfz6_2 := blk_frozen HGz6 2
      have hfz6_3 := blk_frozen HGz6 3
      have hfz6_4 := blk_frozen HGz6 4
      have hfz6_5 := blk_frozen HGz6 5
      have hfz6_6 := blk_frozen HGz6 6
      have hfz6_7 := blk_frozen HGz6 7
      have hfz6_8 := blk_frozen HGz6 8
      have hfz6_9 := blk_frozen HGz6 9
      have hfz6_10 := blk_frozen HGz6 10
      have hfz6_11 := blk_frozen HGz6 11
      clear HGz6 hgz6
      go_enter Try.func101, Try.ntmps101
      go_wp2
      repeat (go_quiet (fail); try go_wp2)
      go_ret
      exact ⟨by first | rfl | (simp [errW_none, errW_some] <;> rfl) | (simp only [← hji4]; first | rfl | (simp [errW_none, errW_some] <;> rfl)) | (simp [*, errW_none, errW_some] <;> rfl), by repeat (first | (with_reducible first | exact HI0.out | apply IsS131.alloc | apply IsS131.drewN | apply IsS131.drew | apply IsS131.set_0 | apply IsS131.set_1 | apply IsS131.set_2 | apply IsS131.set_3 | apply IsS131.set_4 | apply IsS131.set_5 | apply IsS131.set_6 | apply IsS131.set_7 | apply IsS131.set_8 | apply IsS131.set_9 | apply IsS131.set_10 | apply IsS131.set_11) | exact HI0.out), by repeat (first | (with_reducible first | exact HB.out | apply below_alloc | apply pw_below_drewN | apply below_drew1 | refine below_set ?_ (IsS131.ge HI0.out)) | exact HB.out), by repeat (first | (with_reducible first | exact HK.out | apply KeepBut.set_ | apply keep_drewN | apply keep_drew | apply keep_alloc) | exact HK.out)⟩
    · rw [if_neg c5] at H
      have c5b0 : decide (128 ≤ (ji4)) = false := decide_eq_false c5
      clear c5
      simp only [Option.some.injEq, Prod.mk.injEq] at H
      obtain ⟨rfl, rfl, rfl, rfl, rfl, rfl, rfl, rfl, rfl, rfl, rfl, rfl, rfl⟩ := H
      obtain ⟨HGz7, hgz7⟩ := HI0.out
      have hcz7_0 := cellS131_0 HGz7
      have hcz7_1 := cellS131_1 HGz7
      have hcz7_2 := cellS131_2 HGz7
      have hcz7_3 := cellS131_3 HGz7
      have hcz7_4 := cellS131_4 HGz7
      have hcz7_5 := cellS131_5 HGz7
      have hcz7_6 := cellS131_6 HGz7
      have hcz7_7 := cellS131_7 HGz7
      have hcz7_8 := cellS131_8 HGz7
      have hcz7_9 := cellS131_9 HGz7
      have hcz7_10 := cellS131_10 HGz7
      have hcz7_11 := cellS131_11 HGz7
      have hfz7_0 := blk_frozen HGz7 0
      have hfz7_1 := blk_frozen HGz7 1
      have hfz7_2 := blk_frozen HGz7 2
      have hfz7_3 := blk_frozen HGz7 3
      have hfz7_4 := blk_frozen HGz7 4
      have hfz7_5 := blk_frozen HGz7 5
      have hfz7_6 := blk_frozen HGz7 6
      have hfz7_7 := blk_frozen HGz7 7
      have hfz7_8 := blk_frozen HGz7 8
      have hfz7_9 := blk_frozen HGz7 9
      have hfz7_10 := blk_frozen HGz7 10
      have hfz7_11 := blk_frozen HGz7 11
      clear HGz7 hgz7
      go_enter Try.func101, Try.ntmps101
      go_wp2
      repeat (go_quiet (fail); try go_wp2)
      go_ret
      exact ⟨by first | rfl | (simp [errW_none, errW_some] <;> rfl) | (simp only [← hji4]; first | rfl | (simp [errW_none, errW_some] <;> rfl)) | (simp [*, errW_none, errW_some] <;> rfl), by repeat (first | (with_reducible first | exact HI0.out | apply IsS131.alloc | apply IsS131.drewN | apply IsS131.drew | apply IsS131.set_0 | apply IsS131.set_1 | apply IsS131.set_2 | apply IsS131.set_3 | apply IsS131.set_4 | apply IsS131.set_5 | apply IsS131.set_6 | apply IsS131.set_7 | apply IsS131.set_8 | apply IsS131.set_9 | apply IsS131.set_10 | apply IsS131.set_11) | exact HI0.out), by repeat (first | (with_reducible first | exact HB.out | apply below_alloc | apply pw_below_drewN | apply below_drew1 | refine below_set ?_ (IsS131.ge HI0.out)) | exact HB.out), by repeat (first | (with_reducible first | exact HK.out | apply KeepBut.set_ | apply keep_drewN | apply keep_drew | apply keep_alloc) | exact HK.out)⟩
end Go.Proofs.Ytdoclpgciadjaaa.P

namespace Go.Proofs.Ytdoclpgciadjaaa.P
open Go.RowKit Go.Proofs.YtdoclpgciadjaaaW.PrintWords Go.Proofs.YtdoclpgciadjaaaW.PrintLast Go.Proofs.YtdoclpgciadjaaaW.PrintMore
set_option linter.unusedVariables false
set_option linter.unusedSimpArgs false
def impl_ErrorState.f (a0_0 : Int) (a0_1 : Int) (a0_2 : Int) (a0_3 : Bool) (a0_4 : Bool) (a0_5 : Bool) (a0_6 : Bool) (a0_7 : Bool) (a0_8 : Int) (a0_9 : Int) (a0_10 : Int) (a0_11 : Int) (a0_12 : Int) (a0_13 : Int) (a0_14 : Int) (l0_15 : List (S142)) (l0_16 : List (S139)) (l0_17 : List (S25)) (l0_18 : List (S200)) (a0_19 : Int) (a0_20 : Int) : Option (Int) := (impl_counters_state.f a0_0 0 0 false false false false false 0 a0_9 a0_10 0).bind fun t => some t.1
set_option maxRecDepth 100000 in
theorem impl_ErrorState.calls (a0_0 : Int) (a0_1 : Int) (a0_2 : Int) (a0_3 : Bool) (a0_4 : Bool) (a0_5 : Bool) (a0_6 : Bool) (a0_7 : Bool) (a0_8 : Int) (a0_9 : Int) (a0_10 : Int) (a0_11 : Int) (a0_12 : Int) (a0_13 : Int) (a0_14 : Int) (A0_15 : Option Addr) (c0_15 : Nat) (l0_15 : List (S142)) (A0_16 : Option Addr) (c0_16 : Nat) (l0_16 : List (S139)) (A0_17 : Option Addr) (c0_17 : Nat) (l0_17 : List (S25)) (A0_18 : Option Addr) (c0_18 : Nat) (l0_18 : List (S200)) (a0_19 : Int) (a0_20 : Int) (r : Int) (w : World) (hr0_15 : Kd.C k142 w A0_15 l0_15.length l0_15) (hc0_15 : l0_15.length ≤ c0_15) (hr0_16 : Kd.C k139 w A0_16 l0_16.length l0_16) (hc0_16 : l0_16.length ≤ c0_16) (hr0_17 : Kd.C k25 w A0_17 l0_17.length l0_17) (hc0_17 : l0_17.length ≤ c0_17) (hr0_18 : Kd.C k200 w A0_18 l0_18.length l0_18) (hc0_18 : l0_18.length ≤ c0_18) (h : impl_ErrorState.f a0_0 a0_1 a0_2 a0_3 a0_4 a0_5 a0_6 a0_7 a0_8 a0_9 a0_10 a0_11 a0_12 a0_13 a0_14 l0_15 l0_16 l0_17 l0_18 a0_19 a0_20 = some r) :
    Calls Try.prog 43 #[.agg #[.int .i64 a0_0, .int .i64 a0_1, .int .i64 a0_2, .bool a0_3, .bool a0_4, .bool a0_5, .bool a0_6, .bool a0_7, .int .i64 a0_8, .int .i64 a0_9, .int .i64 a0_10, .int .i64 a0_11, .int .i64 a0_12, .int .i64 a0_13, .int .i64 a0_14, .slice A0_15 l0_15.length c0_15, .slice A0_16 l0_16.length c0_16, .slice A0_17 l0_17.length c0_17, .slice A0_18 l0_18.length c0_18, .int .i64 a0_19, .int .i64 a0_20]] w fun e w' => e = .returned (.int .i64 r) ∧ Below w.heap.size w w' := by
  unfold impl_ErrorState.f at h
  obtain ⟨⟨r1, r2, r3, r4, r5, r6, r7, r8, r9, r10, r11, r12, r13⟩, h1, h2⟩ := Option.bind_eq_some_iff.1 h
  obtain rfl := Option.some.inj h2
  have H1 := Lib.hid h1
  clear h h1 h2 hr0_15 hc0_15 hr0_16 hc0_16 hr0_17 hc0_17 hr0_18 hc0_18
  have hu := Try.underlying78
  go_enter Try.func43, Try.ntmps43
  go_wp2_with (fail)
  have hB1 : Hid (∀ X Y : Obj, Below w.heap.size w ((w.alloc X).alloc Y)) := Lib.hid fun X Y => ((Below.refl _ _).alloc (Nat.le_refl _) X).alloc (by simp) Y
  have hI1 : Hid (∀ X : Obj, IsS131 w ((w.alloc X).alloc (.cells #[.int .i64 a0_0, .int .i64 0, .int .i64 0, .bool false, .bool false, .bool false, .bool false, .bool false, .int .i64 0, .int .i64 a0_9, .int .i64 a0_10, .int .i64 0] 131)) (w.heap.size + 1) a0_0 0 0 false false false false false 0 a0_9 a0_10 0) := Lib.hid fun X => by
    have h := IsS131.new w (w.alloc X) a0_0 0 0 false false false false false 0 a0_9 a0_10 0 ((Below.refl _ _).alloc (Nat.le_refl _) X)
    rw [World.size_alloc] at h
    exact h
  (refine (impl_counters_state.calls (w.heap.size + 1) a0_0 0 0 false false false false false 0 a0_9 a0_10 0 r1 r2 r3 r4 r5 r6 r7 r8 r9 r10 r11 r12 r13 w _ (hI1.out _) (hB1.out _ _) H1.out).mono ?_; rintro e w2 ⟨rfl, hi, hb, hk⟩; have HB2 := Lib.hid hb; clear hi hb hk)
  go_wp2_with (fail)
  go_ret
  exact ⟨rfl, HB2.out⟩
end Go.Proofs.Ytdoclpgciadjaaa.P

namespace Go.Proofs.Ytdoclpgciadjaaa.P
open Go.RowKit Go.Proofs.YtdoclpgciadjaaaW.PrintWords Go.Proofs.YtdoclpgciadjaaaW.PrintLast Go.Proofs.YtdoclpgciadjaaaW.PrintMore
set_option linter.unusedVariables false
set_option linter.unusedSimpArgs false
def spec_l4state.f (a0 : Int) (a1 : Int) (a2 : Int) : Option (Int) := if a0 = 7 then (some 2) else (if a1 ≥ 128 then (some 1) else (if a2 ≥ 128 then (some 1) else (some 0)))
set_option maxHeartbeats 8000000 in
set_option maxRecDepth 100000 in
theorem spec_l4state.calls (a0 : Int) (a1 : Int) (a2 : Int) (r : Int) (w : World) (h : spec_l4state.f a0 a1 a2 = some r) :
    Calls Try.prog 99 #[.int .i64 a0, .int .i64 a1, .int .i64 a2] w fun e w' => e = .returned (.int .i64 r) ∧ Drawn0 w w' := by
  have H : (if a0 = 7 then (some 2) else (if a1 ≥ 128 then (some 1) else (if a2 ≥ 128 then (some 1) else (some 0)))) = some r := h
  clear h
  by_cases c4 : a0 = 7
  · rw [if_pos c4] at H
    have c4b0 : (a0 == 7) = true := beq_iff_eq.mpr c4
    have c4b1 : (a0 != 7) = false := bne_eq_false_iff_eq.mpr c4
    clear c4
    obtain rfl := Option.some.inj H
    go_enter Try.func99, Try.ntmps99
    go_wp2
    go_ret
    exact ⟨by first | rfl | (simp; done) | (simp [*]; done), by repeat (first | exact Drawn0.refl _ | apply Drawn0.step)⟩
  · rw [if_neg c4] at H
    have c4b0 : (a0 == 7) = false := beq_eq_false_iff_ne.mpr c4
    have c4b1 : (a0 != 7) = true := bne_iff_ne.mpr c4
    by_cases c5 : a1 ≥ 128
    · rw [if_pos c5] at H
      have c5b0 : decide (128 ≤ a1) = true := decide_eq_true c5
      clear c5
      obtain rfl := Option.some.inj H
      go_enter Try.func99, Try.ntmps99
      go_wp2
      go_ret
      exact ⟨by first | rfl | (simp; done) | (simp [*]; done), by repeat (first | exact Drawn0.refl _ | apply Drawn0.step)⟩
    · rw [if_neg c5] at H
      have c5b0 : decide (128 ≤ a1) = false := decide_eq_false c5
      clear c5
      by_cases c6 : a2 ≥ 128
      · rw [if_pos c6] at H
        have c6b0 : decide (128 ≤ a2) = true := decide_eq_true c6
        clear c6
        obtain rfl := Option.some.inj H
        go_enter Try.func99, Try.ntmps99
        go_wp2
        go_ret
        exact ⟨by first | rfl | (simp; done) | (simp [*]; done), by repeat (first | exact Drawn0.refl _ | apply Drawn0.step)⟩
      · rw [if_neg c6] at H
        have c6b0 : decide (128 ≤ a2) = false := decide_eq_false c6
        clear c6
        obtain rfl := Option.some.inj H
        go_enter Try.func99, Try.ntmps99
        go_wp2
        go_ret
        exact ⟨by first | rfl | (simp; done) | (simp [*]; done), by repeat (first | exact Drawn0.refl _ | apply Drawn0.step)⟩
end Go.Proofs.Ytdoclpgciadjaaa.P

namespace Go.Proofs.Ytdoclpgciadjaaa.P
open Go.RowKit Go.Proofs.YtdoclpgciadjaaaW.PrintWords Go.Proofs.YtdoclpgciadjaaaW.PrintLast Go.Proofs.YtdoclpgciadjaaaW.PrintMore
set_option linter.unusedVariables false
set_option linter.unusedSimpArgs false
def spec_ErrorState.f (a0_0 : Int) (a0_1 : Int) (a0_2 : Int) (a0_3 : Bool) (a0_4 : Bool) (a0_5 : Bool) (a0_6 : Bool) (a0_7 : Bool) (a0_8 : Int) (a0_9 : Int) (a0_10 : Int) (a0_11 : Int) (a0_12 : Int) (a0_13 : Int) (a0_14 : Int) (l0_15 : List (S142)) (l0_16 : List (S139)) (l0_17 : List (S25)) (l0_18 : List (S200)) (a0_19 : Int) (a0_20 : Int) : Option (Int) := (spec_l4state.f a0_0 a0_9 a0_10).bind fun t121 => (some t121)
set_option maxHeartbeats 8000000 in
set_option maxRecDepth 100000 in
theorem spec_ErrorState.calls (a0_0 : Int) (a0_1 : Int) (a0_2 : Int) (a0_3 : Bool) (a0_4 : Bool) (a0_5 : Bool) (a0_6 : Bool) (a0_7 : Bool) (a0_8 : Int) (a0_9 : Int) (a0_10 : Int) (a0_11 : Int) (a0_12 : Int) (a0_13 : Int) (a0_14 : Int) (A0_15 : Option Addr) (c0_15 : Nat) (l0_15 : List (S142)) (A0_16 : Option Addr) (c0_16 : Nat) (l0_16 : List (S139)) (A0_17 : Option Addr) (c0_17 : Nat) (l0_17 : List (S25)) (A0_18 : Option Addr) (c0_18 : Nat) (l0_18 : List (S200)) (a0_19 : Int) (a0_20 : Int) (r : Int) (w : World) (hr0_15 : Kd.C k142 w A0_15 l0_15.length l0_15) (hc0_15 : l0_15.length ≤ c0_15) (hr0_16 : Kd.C k139 w A0_16 l0_16.length l0_16) (hc0_16 : l0_16.length ≤ c0_16) (hr0_17 : Kd.C k25 w A0_17 l0_17.length l0_17) (hc0_17 : l0_17.length ≤ c0_17) (hr0_18 : Kd.C k200 w A0_18 l0_18.length l0_18) (hc0_18 : l0_18.length ≤ c0_18) (h : spec_ErrorState.f a0_0 a0_1 a0_2 a0_3 a0_4 a0_5 a0_6 a0_7 a0_8 a0_9 a0_10 a0_11 a0_12 a0_13 a0_14 l0_15 l0_16 l0_17 l0_18 a0_19 a0_20 = some r) :
    Calls Try.prog 41 #[.agg #[.int .i64 a0_0, .int .i64 a0_1, .int .i64 a0_2, .bool a0_3, .bool a0_4, .bool a0_5, .bool a0_6, .bool a0_7, .int .i64 a0_8, .int .i64 a0_9, .int .i64 a0_10, .int .i64 a0_11, .int .i64 a0_12, .int .i64 a0_13, .int .i64 a0_14, .slice A0_15 l0_15.length c0_15, .slice A0_16 l0_16.length c0_16, .slice A0_17 l0_17.length c0_17, .slice A0_18 l0_18.length c0_18, .int .i64 a0_19, .int .i64 a0_20]] w fun e w' => e = .returned (.int .i64 r) ∧ Below w.heap.size w w' := by
  have hu78 := Try.underlying78
  have HR0_15 := Aside0.mk hr0_15
  have HC0_15 := Aside0.mk hc0_15
  clear hr0_15 hc0_15
  have HR0_16 := Aside0.mk hr0_16
  have HC0_16 := Aside0.mk hc0_16
  clear hr0_16 hc0_16
  have HR0_17 := Aside0.mk hr0_17
  have HC0_17 := Aside0.mk hc0_17
  clear hr0_17 hc0_17
  have HR0_18 := Aside0.mk hr0_18
  have HC0_18 := Aside0.mk hc0_18
  clear hr0_18 hc0_18
  have HB := Aside0.mk (Below.refl w.heap.size w)
  have H : ((spec_l4state.f a0_0 a0_9 a0_10).bind fun t121 => (some t121)) = some r := h
  clear h
  replace H := Option.bind_eq_some_iff.mp H
  obtain ⟨t121, A20, H⟩ := H
  replace H : (some t121) = some r := H
  have A2 := Aside0.mk A20
  clear A20
  obtain rfl := Option.some.inj H
  go_enter Try.func41, Try.ntmps41
  go_wp2_with (first | ((with_reducible refine gate_dst (N := 1) rfl ?_); refine box_event ?hg (N := 1) ?hd (cs := #[.int .i64 a0_0, .int .i64 a0_1, .int .i64 a0_2, .bool a0_3, .bool a0_4, .bool a0_5, .bool a0_6, .bool a0_7, .int .i64 a0_8, .int .i64 a0_9, .int .i64 a0_10, .int .i64 a0_11, .int .i64 a0_12, .int .i64 a0_13, .int .i64 a0_14, .slice A0_15 l0_15.length c0_15, .slice A0_16 l0_16.length c0_16, .slice A0_17 l0_17.length c0_17, .slice A0_18 l0_18.length c0_18, .int .i64 a0_19, .int .i64 a0_20]) (t := 78) ?hr ?_; (case hd => rfl); (case hg => rfl); (case hr => first | (go_simp; done) | (go_simp; rfl)); intro gb120 hg w3 hbox hb; have n0_ := Aside0.mk (below_step (by repeat (first | (with_reducible first | exact HB.out | apply below_alloc | apply pw_below_drewN | apply below_drew1) | exact HB.out)) hb); have n1_ := Aside0.mk (hbox); have n2_ := Aside0.mk ((by rw [hg]; exact (below_size (by repeat (first | (with_reducible first | exact HB.out | apply below_alloc | apply pw_below_drewN | apply below_drew1) | exact HB.out))) : w.heap.size ≤ gb120)); have n3_ := Aside0.mk ((by rw [hg]; exact (below_size (by repeat (first | (with_reducible first | exact HB.out | apply below_alloc | apply pw_below_drewN | apply below_drew1) | exact HB.out))) : w.heap.size ≤ gb120)); clear HB; have HB := n0_; have BK120 := n1_; have GW120 := n2_; have GE120 := n3_; clear n0_ n1_ n2_ n3_; clear hb hbox hg; have hcz4_0 : w3.cell? ⟨gb120, 0, none⟩ = some (.int .i64 a0_0) := (blk_cell BK120.out 0).trans rfl; have hcz4_1 : w3.cell? ⟨gb120, 1, none⟩ = some (.int .i64 a0_1) := (blk_cell BK120.out 1).trans rfl; have hcz4_2 : w3.cell? ⟨gb120, 2, none⟩ = some (.int .i64 a0_2) := (blk_cell BK120.out 2).trans rfl; have hcz4_3 : w3.cell? ⟨gb120, 3, none⟩ = some (.bool a0_3) := (blk_cell BK120.out 3).trans rfl; have hcz4_4 : w3.cell? ⟨gb120, 4, none⟩ = some (.bool a0_4) := (blk_cell BK120.out 4).trans rfl; have hcz4_5 : w3.cell? ⟨gb120, 5, none⟩ = some (.bool a0_5) := (blk_cell BK120.out 5).trans rfl; have hcz4_6 : w3.cell? ⟨gb120, 6, none⟩ = some (.bool a0_6) := (blk_cell BK120.out 6).trans rfl; have hcz4_7 : w3.cell? ⟨gb120, 7, none⟩ = some (.bool a0_7) := (blk_cell BK120.out 7).trans rfl; have hcz4_8 : w3.cell? ⟨gb120, 8, none⟩ = some (.int .i64 a0_8) := (blk_cell BK120.out 8).trans rfl; have hcz4_9 : w3.cell? ⟨gb120, 9, none⟩ = some (.int .i64 a0_9) := (blk_cell BK120.out 9).trans rfl; have hcz4_10 : w3.cell? ⟨gb120, 10, none⟩ = some (.int .i64 a0_10) := (blk_cell BK120.out 10).trans rfl; have hcz4_11 : w3.cell? ⟨gb120, 11, none⟩ = some (.int .i64 a0_11) := (blk_cell BK120.out 11).trans rfl; have hcz4_12 : w3.cell? ⟨gb120, 12, none⟩ = some (.int .i64 a0_12) := (blk_cell BK120.out 12).trans rfl; have hcz4_13 : w3.cell? ⟨gb120, 13, none⟩ = some (.int .i64 a0_13) := (blk_cell BK120.out 13).trans rfl; have hcz4_14 : w3.cell? ⟨gb120, 14, none⟩ = some (.int .i64 a0_14) := (blk_cell BK120.out 14).trans rfl; have hcz4_15 : w3.cell? ⟨gb120, 15, none⟩ = some (.slice A0_15 l0_15.length c0_15) := (blk_cell BK120.out 15).trans rfl; have hcz4_16 : w3.cell? ⟨gb120, 16, none⟩ = some (.slice A0_16 l0_16.length c0_16) := (blk_cell BK120.out 16).trans rfl; have hcz4_17 : w3.cell? ⟨gb120, 17, none⟩ = some (.slice A0_17 l0_17.length c0_17) := (blk_cell BK120.out 17).trans rfl; have hcz4_18 : w3.cell? ⟨gb120, 18, none⟩ = some (.slice A0_18 l0_18.length c0_18) := (blk_cell BK120.out 18).trans rfl; have hcz4_19 : w3.cell? ⟨gb120, 19, none⟩ = some (.int .i64 a0_19) := (blk_cell BK120.out 19).trans rfl; have hcz4_20 : w3.cell? ⟨gb120, 20, none⟩ = some (.int .i64 a0_20) := (blk_cell BK120.out 20).trans rfl; have hfz4_0 := blk_frozen BK120.out 0; have hfz4_1 := blk_frozen BK120.out 1; have hfz4_2 := blk_frozen BK120.out 2; have hfz4_3 := blk_frozen BK120.out 3; have hfz4_4 := blk_frozen BK120.out 4; have hfz4_5 := blk_frozen BK120.out 5; have hfz4_6 := blk_frozen BK120.out 6; have hfz4_7 := blk_frozen BK120.out 7; have hfz4_8 := blk_frozen BK120.out 8; have hfz4_9 := blk_frozen BK120.out 9; have hfz4_10 := blk_frozen BK120.out 10; have hfz4_11 := blk_frozen BK120.out 11; have hfz4_12 := blk_frozen BK120.out 12; have hfz4_13 := blk_frozen BK120.out 13; have hfz4_14 := blk_frozen BK120.out 14; have hfz4_15 := blk_frozen BK120.out 15; have hfz4_16 := blk_frozen BK120.out 16; have hfz4_17 := blk_frozen BK120.out 17; have hfz4_18 := blk_frozen BK120.out 18; have hfz4_19 := blk_frozen BK120.out 19; have hfz4_20 := blk_frozen BK120.out 20) | ((with_reducible refine gate_callee (f := 99) rfl ?_); refine goesL_ (some 9) rfl rfl Try.func99 (by kernel_rfl) rfl #[.int .i64 a0_0, .int .i64 a0_9, .int .i64 a0_10] rfl (by (try simp only [List.map_toArray, List.map_cons, List.map_nil]); first | done | rfl | (simp only [List.length_drop, List.length_take]; rfl)) ?_; (with_reducible refine (spec_l4state.calls a0_0 a0_9 a0_10 t121 _ A2.out).mono ?_); rintro e w' ⟨rfl, ⟨nd, rfl⟩⟩; refine ⟨_, rfl, ?_⟩))
  go_ret
  exact ⟨by first | rfl | (simp [errW_none, errW_some] <;> rfl) | (simp [*, errW_none, errW_some] <;> rfl), by repeat (first | (with_reducible first | exact HB.out | apply below_alloc | apply pw_below_drewN | apply below_drew1 | refine below_set ?_ GE120.out) | exact HB.out)⟩
end Go.Proofs.Ytdoclpgciadjaaa.P

namespace Go.Proofs.Ytdoclpgciadjaaa.P
open Go Go.RowKit Go.Proofs.YtdoclpgciadjaaaW.PrintWords
set_option linter.unusedVariables false
def cHost (x : S65) : S76 := ⟨⟨x.f0.f0, x.f0.f1, x.f0.f2, x.f0.f3⟩, x.f1.map cFilter, x.f2.map cBox, x.f3.map cFrame, x.f4.map cEvent, x.f5, x.f6⟩
def cCore (x : S67) : S78 := ⟨x.f0, x.f1, x.f2, x.f3, x.f4, x.f5, x.f6, x.f7, x.f8, x.f9, x.f10, cHost x.f11⟩
structure Few (m : Int) (x : S65) : Prop where
  l1 : x.f1.length ≤ m
  l2 : x.f2.length ≤ m
  l3 : x.f3.length ≤ m
  l4 : x.f4.length ≤ m
  d2 : ∀ y ∈ x.f2, y.f3.f4.length ≤ m
  d3 : ∀ y ∈ x.f3, y.f4.length ≤ m
  d4 : ∀ y ∈ x.f4, y.f3.f4.length ≤ m
structure FewI (m : Int) (x : S76) : Prop where
  l1 : x.f1.length ≤ m
  l2 : x.f2.length ≤ m
  l3 : x.f3.length ≤ m
  l4 : x.f4.length ≤ m
  d2 : ∀ y ∈ x.f2, y.f3.f4.length ≤ m
  d3 : ∀ y ∈ x.f3, y.f4.length ≤ m
  d4 : ∀ y ∈ x.f4, y.f3.f4.length ≤ m
theorem Few.toI {m : Int} {x : S65} (h : Few m x) : FewI m (cHost x) := by
  obtain ⟨l1, l2, l3, l4, d2, d3, d4⟩ := h
  refine ⟨by simp only [cHost, List.length_map]; exact l1, by simp only [cHost, List.length_map]; exact l2, by simp only [cHost, List.length_map]; exact l3, by simp only [cHost, List.length_map]; exact l4, ?_, ?_, ?_⟩
  · simp only [cHost, List.mem_map]; rintro _ ⟨z, hz, rfl⟩; exact d2 z hz
  · simp only [cHost, List.mem_map]; rintro _ ⟨z, hz, rfl⟩; exact d3 z hz
  · simp only [cHost, List.mem_map]; rintro _ ⟨z, hz, rfl⟩; exact d4 z hz
theorem szCore_v (x : S67) (hB : b67 x) : ∃ r : Int, (0 ≤ r → Few 1048576 x.f11) ∧ ∀ (w : World) (C : List Value), k67.K w x C →
    Calls Try.prog 40 #[.agg ⟨C⟩, .int .i64 1048576] w fun e w' => e = .returned (.int .i64 r) ∧ Below w.heap.size w w' := by
  obtain ⟨a0, a1, a2, b3, b4, b5, b6, b7, a8, a9, a10, ⟨⟨a, b, c, d⟩, l4, l5, l6, l7, y, z⟩⟩ := x
  obtain ⟨_, _, _, _, _, _, _, _, _, _, _, _, ⟨h4, _⟩, ⟨h5, d5⟩, ⟨h6, d6⟩, ⟨h7, d7⟩, _, _⟩ := hB
  obtain ⟨r, hr, hb⟩ := szCore_ev a0 a1 a2 b3 b4 b5 b6 b7 a8 a9 a10 a b c d l4 l5 l6 l7 y z 1048576 h4 h5 h6 h7 (fun x hx => (d5 x hx).2.2.2.2.2.2.2.1) (fun x hx => (d6 x hx).2.2.2.2.1) (fun x hx => (d7 x hx).2.2.2.2.2.2.2.1) (by omega) (by omega)
  refine ⟨r, fun h => ?_, fun w C hK => ?_⟩
  · obtain ⟨⟨q4, q5, q6, q7⟩, m5, m6, m7⟩ := hb h
    exact ⟨q4, q5, q6, q7, m5, m6, m7⟩
  · obtain ⟨A15, c15, A16, c16, A17, c17, A18, c18, rfl, l15, g15, l16, g16, l17, g17, l18, g18⟩ := k67_open hK
    obtain ⟨k, hk⟩ := hr.rounds
    exact laws_szCore.calls k a0 a1 a2 b3 b4 b5 b6 b7 a8 a9 a10 a b c d _ _ l4 _ _ l5 _ _ l6 _ _ l7 y z 1048576 r w g15 l15 g16 l16 g17 l17 g18 l18 hk
theorem toCore_v (x : S67) (hs : Few 1048576 x.f11) (w : World) (C : List Value) (hK : k67.K w x C) :
    Calls Try.prog 42 #[.agg ⟨C⟩] w fun e w' => ∃ C' : List Value, e = .returned (.agg ⟨C'⟩) ∧ k78.M w' w.heap.size (fun _ => True) (cCore x) C' ∧ Below w.heap.size w w' := by
  obtain ⟨a0, a1, a2, b3, b4, b5, b6, b7, a8, a9, a10, ⟨⟨a, b, c, d⟩, l4, l5, l6, l7, y, z⟩⟩ := x
  obtain ⟨q4, q5, q6, q7, m5, m6, m7⟩ := hs
  obtain ⟨A15, c15, A16, c16, A17, c17, A18, c18, rfl, l15, g15, l16, g16, l17, g17, l18, g18⟩ := k67_open hK
  simp only [] at *
  obtain ⟨k, hk⟩ := (toCore_ev a0 a1 a2 b3 b4 b5 b6 b7 a8 a9 a10 a b c d l4 l5 l6 l7 y z (by omega) (by omega) (by omega) (by omega) (fun x hx => by have := m5 x hx; omega) (fun x hx => by have := m6 x hx; omega) (fun x hx => by have := m7 x hx; omega)).rounds
  refine (laws_toCore.calls k a0 a1 a2 b3 b4 b5 b6 b7 a8 a9 a10 a b c d _ _ l4 _ _ l5 _ _ l6 _ _ l7 y z _ _ _ _ _ _ _ _ _ _ _ _ _ _ _ _ _ _ _ _ _ w g15 l15 g16 l16 g17 l17 g18 l18 hk).mono ?_
  rintro e w' ⟨v15, v16, v17, v18, rfl, r15, r16, r17, r18, hb⟩
  exact ⟨_, rfl, k78_mkM w' _ _ (cCore ⟨a0, a1, a2, b3, b4, b5, b6, b7, a8, a9, a10, ⟨⟨a, b, c, d⟩, l4, l5, l6, l7, y, z⟩⟩) r15 (Kd.S_R r16) (Kd.S_R r17) (Kd.S_R r18), hb⟩
theorem eqCore_v (x : S78) (hs : FewI 1048576 x.f11) (w : World) (C D : List Value) (hK : k78.K w x C) (hL : k78.K w x D) :
    Calls Try.prog 44 #[.agg ⟨C⟩, .agg ⟨D⟩] w fun e w' => e = .returned (.bool true) ∧ Below w.heap.size w w' := by
  obtain ⟨a0, a1, a2, b3, b4, b5, b6, b7, a8, a9, a10, ⟨⟨a, b, c, d⟩, l4, l5, l6, l7, y, z⟩⟩ := x
  obtain ⟨q4, q5, q6, q7, m5, m6, m7⟩ := hs
  obtain ⟨A15, c15, A16, c16, A17, c17, A18, c18, rfl, l15, g15, l16, g16, l17, g17, l18, g18⟩ := k78_open hK
  obtain ⟨A25, c25, A26, c26, A27, c27, A28, c28, rfl, l25, g25, l26, g26, l27, g27, l28, g28⟩ := k78_open hL
  simp only [] at *
  obtain ⟨k, hk⟩ := (eqCore_ev a0 a1 a2 b3 b4 b5 b6 b7 a8 a9 a10 a b c d l4 l5 l6 l7 y z (by omega) (by omega) (by omega) (by omega) (fun x hx => by have := m5 x hx; omega) (fun x hx => by have := m6 x hx; omega) (fun x hx => by have := m7 x hx; omega)).rounds
  exact laws_eqCore.calls k a0 a1 a2 b3 b4 b5 b6 b7 a8 a9 a10 a b c d _ _ l4 _ _ l5 _ _ l6 _ _ l7 y z a0 a1 a2 b3 b4 b5 b6 b7 a8 a9 a10 a b c d _ _ l4 _ _ l5 _ _ l6 _ _ l7 y z true w g15 l15 g16 l16 g17 l17 g18 l18 g25 l25 g26 l26 g27 l27 g28 l28 hk
def stateV (p t r : Int) : Int := if p = 7 then 2 else if t ≥ 128 ∨ r ≥ 128 then 1 else 0
theorem specState_eq (p t r : Int) : spec_l4state.f p t r = some (stateV p t r) := by
  unfold spec_l4state.f stateV
  by_cases c : p = 7
  · rw [if_pos c, if_pos c]
  rw [if_neg c, if_neg c]
  by_cases c1 : t ≥ 128
  · rw [if_pos c1, if_pos (.inl c1)]
  rw [if_neg c1]
  by_cases c2 : r ≥ 128
  · rw [if_pos c2, if_pos (.inr c2)]
  · rw [if_neg c2, if_neg (by rintro (h | h); exact c1 h; exact c2 h)]
theorem implState_eq (a0 a1 a2 : Int) (b3 b4 b5 b6 b7 : Bool) (a8 a9 a10 a b c d : Int) (l4 : List S142) (l5 : List S139) (l6 : List S25) (l7 : List S200) (x y : Int) : impl_ErrorState.f a0 a1 a2 b3 b4 b5 b6 b7 a8 a9 a10 a b c d l4 l5 l6 l7 x y = some (stateV a0 a9 a10) := by
  unfold impl_ErrorState.f impl_counters_state.f stateV
  have hm : (mx a9 a10 ≥ 128) ↔ (a9 ≥ 128 ∨ a10 ≥ 128) := by unfold mx; omega
  by_cases c0 : a0 = 7
  · rw [if_pos c0, if_pos c0]; rfl
  rw [if_neg c0, if_neg c0]
  by_cases c1 : mx a9 a10 ≥ 128
  · rw [if_pos c1, if_pos (hm.1 c1)]; rfl
  · rw [if_neg c1, if_neg (fun h => c1 (hm.2 h))]; rfl
theorem specErrorState_v (x : S78) (w : World) (C : List Value) (hK : k78.K w x C) :
    Calls Try.prog 41 #[.agg ⟨C⟩] w fun e w' => e = .returned (.int .i64 (stateV x.f0 x.f9 x.f10)) ∧ Below w.heap.size w w' := by
  obtain ⟨A15, c15, A16, c16, A17, c17, A18, c18, rfl, l15, g15, l16, g16, l17, g17, l18, g18⟩ := k78_open hK
  exact spec_ErrorState.calls _ _ _ _ _ _ _ _ _ _ _ _ _ _ _ _ _ _ _ _ _ _ _ _ _ _ _ _ _ _ w g15 l15 g16 l16 g17 l17 g18 l18 (by unfold spec_ErrorState.f; rw [specState_eq]; rfl)
theorem implErrorState_v (x : S78) (w : World) (C : List Value) (hK : k78.K w x C) :
    Calls Try.prog 43 #[.agg ⟨C⟩] w fun e w' => e = .returned (.int .i64 (stateV x.f0 x.f9 x.f10)) ∧ Below w.heap.size w w' := by
  obtain ⟨A15, c15, A16, c16, A17, c17, A18, c18, rfl, l15, g15, l16, g16, l17, g17, l18, g18⟩ := k78_open hK
  exact impl_ErrorState.calls _ _ _ _ _ _ _ _ _ _ _ _ _ _ _ _ _ _ _ _ _ _ _ _ _ _ _ _ _ _ w g15 l15 g16 l16 g17 l17 g18 l18 (implState_eq _ _ _ _ _ _ _ _ _ _ _ _ _ _ _ _ _ _ _ _ _)
end Go.Proofs.Ytdoclpgciadjaaa.P

namespace Go.Proofs.Ytdoclpgciadjaaa.Pure
open Go Go.RowKit Go.Proofs.Ytdoclpgciadjaaa.P Go.Proofs.YtdoclpgciadjaaaW.PrintWords
set_option linter.unusedVariables false
set_option maxRecDepth 100000 in
set_option maxHeartbeats 4000000 in
theorem FnExactErrorState_walk (x0 : S67) (hB0 : b67 x0) (w : World) (C0 : List Value) (hK0 : k67.K w x0 C0) :
    Calls Try.prog 7 #[.agg ⟨C0⟩] w fun e w' => e = .returned (.bool true) ∧ Below w.heap.size w w' := by
  have hu1 := Lib.hid Try.underlying67
  have hu2 := Lib.hid Try.underlying78
  have HI0 : Hid ((Try.prog.info? 67).map (·.size) = some C0.length) := Lib.hid (by rw [k67.K_len hK0]; kernel_rfl)
  have HK0 := Lib.hid hK0
  obtain ⟨r, hsm, hsz⟩ := szCore_v x0 hB0
  have HSZ := Lib.hid hsz
  have HSM := Lib.hid hsm
  clear hK0 hsz hsm
  by_cases c : r < 0
  · have c1 : decide (r < 0) = true := decide_eq_true c
    go_enter Try.func7, Try.ntmps7
    go_wp2_with (first | ((with_reducible refine gate_dst (N := 1) rfl ?_); refine box_event ?hg (N := 1) ?hd (cs := ⟨C0⟩) (t := 67) ?hr ?_; (case hd => rfl); (case hg => rfl); (case hr => first | (go_simp; done) | (go_simp; rfl)); intro g1 hg w1 hbox hb; have HG1 := Lib.hid hbox; have HB1 := Lib.hid hb; have HK1 := Lib.hid (k67.K_below hb HK0.out); clear hg hbox hb) | ((with_reducible refine gate_dst (N := 7) rfl ?_); refine load_all rfl rfl (g := g1) rfl HG1.out hu1.out HI0.out ?_) | (go_at_call 40; refine (HSZ.out _ _ HK1.out).mono ?_; rintro e w2 ⟨rfl, hb⟩; have HB2 := Lib.hid (below_then HB1.out HB1.out.size hb); clear hb))
    go_ret
    exact ⟨rfl, HB2.out⟩
  · have c1 : decide (r < 0) = false := decide_eq_false c
    have HS := Lib.hid (HSM.out (by omega))
    go_enter Try.func7, Try.ntmps7
    go_upto_region 5 with (first | ((with_reducible refine gate_dst (N := 1) rfl ?_); refine box_event ?hg (N := 1) ?hd (cs := ⟨C0⟩) (t := 67) ?hr ?_; (case hd => rfl); (case hg => rfl); (case hr => first | (go_simp; done) | (go_simp; rfl)); intro g1 hg w1 hbox hb; have HG1 := Lib.hid hbox; have HB1 := Lib.hid hb; have HK1 := Lib.hid (k67.K_below hb HK0.out); clear hg hbox hb) | ((with_reducible refine gate_dst (N := 7) rfl ?_); refine load_all rfl rfl (g := g1) rfl HG1.out hu1.out HI0.out ?_) | (go_at_call 40; refine (HSZ.out _ _ HK1.out).mono ?_; rintro e w2 ⟨rfl, hb⟩; have HB2 := Lib.hid (below_then HB1.out HB1.out.size hb); have HG2 := Lib.hid (blk_below HG1.out hb); have HK2 := Lib.hid (k67.K_below hb HK1.out); clear hb))
    go_upto_region 6 with (first | ((with_reducible refine gate_dst (N := 12) rfl ?_); refine load_all rfl rfl (g := g1) rfl HG2.out hu1.out HI0.out ?_) | (go_at_call 42; refine (toCore_v x0 HS.out _ _ HK2.out).mono ?_; rintro e w3 ⟨C1, rfl, hm, hb⟩; have HC1 := Lib.hid hm; have HB3 := Lib.hid (below_then HB2.out HB2.out.size hb); have HG3 := Lib.hid (blk_below HG2.out hb); have HK3 := Lib.hid (k67.K_below hb HK2.out); clear hm hb) | (go_at_call 41; refine (specErrorState_v (cCore x0) _ _ (k78.K_of_M HC1.out)).mono ?_; rintro e w4 ⟨rfl, hb⟩; have HB4 := Lib.hid (below_then HB3.out HB3.out.size hb); have HG4 := Lib.hid (blk_below HG3.out hb); have HK4 := Lib.hid (k67.K_below hb HK3.out); clear hb))
    go_upto_region 10 with (first | ((with_reducible refine gate_dst (N := 15) rfl ?_); refine load_all rfl rfl (g := g1) rfl HG4.out hu1.out HI0.out ?_) | (go_at_call 42; refine (toCore_v x0 HS.out _ _ HK4.out).mono ?_; rintro e w5 ⟨C2, rfl, hm, hb⟩; have HC2 := Lib.hid hm; have HB5 := Lib.hid (below_then HB4.out HB4.out.size hb); have HG5 := Lib.hid (blk_below HG4.out hb); have HK5 := Lib.hid (k67.K_below hb HK4.out); have HI2 : Hid ((Try.prog.info? 78).map (·.size) = some C2.length) := Lib.hid (by rw [k78.K_len (k78.K_of_M hm)]; kernel_rfl); clear hm hb) | ((with_reducible refine gate_dst (N := 5) rfl ?_); refine box_event ?hg (N := 5) ?hd (cs := #[.int .i64 0, .int .i64 0, .int .i64 0, .bool false, .bool false, .bool false, .bool false, .bool false, .int .i64 0, .int .i64 0, .int .i64 0, .int .i64 0, .int .i64 0, .int .i64 0, .int .i64 0, .slice none 0 0, .slice none 0 0, .slice none 0 0, .slice none 0 0, .int .i64 0, .int .i64 0]) (t := 78) ?hr ?_; (case hd => rfl); (case hg => rfl); (case hr => first | (go_simp; done) | (go_simp; rfl)); intro g2 hg w6 hbox hb; have HX6 := Lib.hid hbox; have HE2 : Hid (w.heap.size ≤ g2) := Lib.hid (by rw [hg]; exact HB5.out.size); have HN12 : Hid (g1 ≠ g2) := Lib.hid (by rw [hg]; exact Nat.ne_of_lt (blk_lt HG5.out)); have HB6 := Lib.hid (below_then HB5.out HB5.out.size hb); have HG6 := Lib.hid (blk_below HG5.out hb); have HK6 := Lib.hid (k67.K_below hb HK5.out); have HD6 := Lib.hid (Kd.M_below HC2.out hb); clear hg hbox hb) | ((with_reducible refine gate_store (t := 78) (p := 5) rfl ?_); refine store_all rfl rfl rfl (g := g2) (C := C2) rfl rfl HX6.out HI2.out (k78.K_one (k78.K_of_M HC2.out)) (k78.K_len (k78.K_of_M HC2.out)).symm ?_; intro w7 hx hT; have HX7 := Lib.hid hx; have HB7 := Lib.hid (hT.below HB6.out HB6.out.size (fun k hk => by rw [hk]; exact HE2.out)); have HG7 := Lib.hid (hT.blk HG6.out HN12.out); have HK7 : Hid (k67.K w7 x0 C0) := Lib.hid (k67.K_below HB7.out HK0.out); have HD7 := Lib.hid (M_tch HD6.out HX6.out (by decide) hT); clear hx hT) | ((with_reducible refine gate_dst (N := 17) rfl ?_); refine load_all rfl rfl (g := g2) rfl HX7.out hu2.out HI2.out ?_) | (go_at_call 43; refine (implErrorState_v (cCore x0) _ _ (k78.K_of_M HD7.out)).mono ?_; rintro e w8 ⟨rfl, hb⟩; have HB8 := Lib.hid (below_then HB7.out HB7.out.size hb); have HG8 := Lib.hid (blk_below HG7.out hb); have HX8 := Lib.hid (blk_below HX7.out hb); have HK8 := Lib.hid (k67.K_below hb HK7.out); have HD8 := Lib.hid (Kd.M_below HD7.out hb); clear hb))
    have HR : ∀ w' : World, w'.heap[g1]? = some (.cells ⟨C0⟩ 67 (0, 0)) → w'.heap[g2]? = some (.cells ⟨C2⟩ 78 (0, 0)) → (w'.rangeAt g1 0 C0 ∧ w'.rangeAt g2 0 C2) := fun w' h1 h2 => ⟨range_all h1, range_all h2⟩
    have HH := Lib.hid HR
    clear HR
    have HK9 : Hid (k67.K w8.drew x0 C0) := Lib.hid (k67.K_below (below_drew (Below.refl _ _)) HK8.out)
    refine wp_region_held_drew (S := fun w' : World => w'.rangeAt g1 0 C0 ∧ w'.rangeAt g2 0 C2) (by kernel_rfl) (HH.out _ HG8.out HX8.out) (fun hH0 => ?_)
    refine' wpAnyH_take (i := 0) (oi := _) (v := _) rfl (by kernel_rfl) (by kernel_rfl) (by kernel_rfl) (fun _ _ _ h => h) (yieldsIf_load_mid (by rfl) _ _ rfl g2 0 rfl C2 _ (fun w h => h.2) hu2.out rfl HI2.out) (by assumption) ?rest
    refine' wpAnyH_take (i := 1) (oi := _) (v := _) rfl (by kernel_rfl) (by kernel_rfl) (by kernel_rfl) (fun _ _ _ h => h) (yieldsIf_load_mid (by rfl) _ _ rfl g1 0 rfl C0 _ (fun w h => h.1) hu1.out rfl HI0.out) (by assumption) ?rest2
    refine wpAnyH_ready (rs := [2]) (by kernel_rfl) (by simp) ?_
    refine AllReadyH.cons rfl (fun K hK => ?_) AllReadyH.nil
    clear hH0
    go_simp
    go_wp2_with (first | (go_at_call 42; refine (toCore_v x0 HS.out _ _ HK9.out).mono ?_; rintro e w9 ⟨C3, rfl, hm, hb⟩; have HC3 := Lib.hid hm; have HB9 := Lib.hid (below_then (below_drew HB8.out) HB8.out.size hb); have HG9 := Lib.hid (blk_below (show w8.drew.heap[g1]? = _ from HG8.out) hb); have HX9 := Lib.hid (blk_below (show w8.drew.heap[g2]? = _ from HX8.out) hb); have HD9 := Lib.hid (Kd.M_below (Kd.M_below HD8.out (below_drew (Below.refl _ _))) hb); clear hm hb))
    refine hK.out _ _ (HH.out _ HG9.out HX9.out) (fun hH1 => ?_)
    clear hK K
    refine wpAnyH_ready (rs := [3]) (by kernel_rfl) (by simp) ?_
    refine AllReadyH.cons rfl (fun K hK => ?_) AllReadyH.nil
    clear hH1
    go_simp
    go_wp2_with (first | (go_at_call 44; refine (eqCore_v (cCore x0) HS.out.toI _ _ _ (k78.K_of_M HD9.out) (k78.K_of_M HC3.out)).mono ?_; rintro e wa ⟨rfl, hb⟩; have HBa := Lib.hid (below_then HB9.out HB9.out.size hb); have HGa := Lib.hid (blk_below HG9.out hb); have HXa := Lib.hid (blk_below HX9.out hb); clear hb))
    refine hK.out _ _ (HH.out _ HGa.out HXa.out) (fun hH2 => ?_)
    clear hK K
    refine wpAnyH_ready (rs := [4]) (by kernel_rfl) (by simp) ?_
    refine AllReadyH.cons rfl (fun K hK => ?_) AllReadyH.nil
    clear hH2
    go_simp
    refine hK.out _ _ (HH.out _ HGa.out HXa.out) (fun hH3 => ?_)
    clear hK K hH3
    refine wpAnyH_done (by kernel_rfl) ?_ _
    go_wp2_with (fail)
    go_ret
    exact ⟨rfl, HBa.out⟩
end Go.Proofs.Ytdoclpgciadjaaa.Pure
