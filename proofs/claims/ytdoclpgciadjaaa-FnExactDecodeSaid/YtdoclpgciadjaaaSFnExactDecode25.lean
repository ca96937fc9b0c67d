/- Texts of the proof of FnExactDecode, joined. -/
import Derived.Test.YtdoclpgciadjaaaSFnExactDecode21
import Derived.Test.YtdoclpgciadjaaaSFnExactDecode24
namespace Go.Proofs.Ytdoclpgciadjaaa.P
open Go.RowKit Go.Proofs.YtdoclpgciadjaaaW.PrintWords Go.Proofs.YtdoclpgciadjaaaW.PrintLast Go.Proofs.YtdoclpgciadjaaaW.PrintMore
set_option linter.unusedVariables false
set_option linter.unusedSimpArgs false
def impl_copyFrame.f (a0_0 : Bool) (a0_1 : Int) (a0_2 : Bool) (a0_3 : Int) (l0_4 : List Int) : Option (Bool × Int × Bool × Int × List Int) := (some (([] : List Int) : List Int)).bind fun y103 => (if y103.length + l0_4.length < 140737488355328 then (some (a0_0, a0_1, a0_2, a0_3, (y103 ++ l0_4))) else (none))
set_option maxHeartbeats 8000000 in
set_option maxRecDepth 100000 in
theorem impl_copyFrame.calls (a0_0 : Bool) (a0_1 : Int) (a0_2 : Bool) (a0_3 : Int) (A0_4 : Option Addr) (c0_4 : Nat) (l0_4 : List Int) (r1 : Bool) (r2 : Int) (r3 : Bool) (r4 : Int) (r5 : List Int) (w : World) (hr0_4 : Kd.C (Kd.int .u8) w A0_4 l0_4.length l0_4) (hc0_4 : l0_4.length ≤ c0_4) (h : impl_copyFrame.f a0_0 a0_1 a0_2 a0_3 l0_4 = some (r1, r2, r3, r4, r5)) :
    Calls Try.prog 84 #[.agg #[.bool a0_0, .int .u32 a0_1, .bool a0_2, .int .i64 a0_3, .slice A0_4 l0_4.length c0_4]] w fun e w' => ∃ v4_ : Value, e = .returned (.agg #[.bool r1, .int .u32 r2, .bool r3, .int .i64 r4, v4_]) ∧ Kd.R (Kd.int .u8) 5 w' w.heap.size (fun _ => True) v4_ r5 ∧ Below w.heap.size w w' := by
  have hu25 := Try.underlying25
  have HR0_4 := Aside0.mk hr0_4
  have HC0_4 := Aside0.mk hc0_4
  clear hr0_4 hc0_4
  have HB := Aside0.mk (Below.refl w.heap.size w)
  have H : ((some (([] : List Int) : List Int)).bind fun y103 => (if y103.length + l0_4.length < 140737488355328 then (some (a0_0, a0_1, a0_2, a0_3, (y103 ++ l0_4))) else (none))) = some (r1, r2, r3, r4, r5) := h
  clear h
  obtain ⟨y103, hy103⟩ : ∃ y_ : List Int, y_ = (([] : List Int)) := ⟨_, rfl⟩
  replace H : (if y103.length + l0_4.length < 140737488355328 then (some (a0_0, a0_1, a0_2, a0_3, (y103 ++ l0_4))) else (none)) = some (r1, r2, r3, r4, r5) := by first | (rw [hy103]; with_reducible exact H) | (have H2_ := (Option.bind_some _ _).symm.trans H; rw [hy103]; with_reducible exact H2_) | (have H2_ := (Option.bind_some _ _).symm.trans H; with_reducible exact H2_) | with_reducible exact H | (rw [hy103]; exact H) | exact H
  have Ny103 := Aside0.mk hy103
  clear hy103
  by_cases c2 : y103.length + l0_4.length < 140737488355328
  · rw [if_pos c2] at H
    have LMc2 := Aside0.mk c2
    clear c2
    obtain ⟨y106, hy106⟩ : ∃ y_ : List Int, y_ = (y103 ++ l0_4) := ⟨_, rfl⟩
    replace H : (some (a0_0, a0_1, a0_2, a0_3, y106)) = some (r1, r2, r3, r4, r5) := by first | (rw [hy106]; with_reducible exact H) | (have H2_ := (Option.bind_some _ _).symm.trans H; rw [hy106]; with_reducible exact H2_) | (have H2_ := (Option.bind_some _ _).symm.trans H; with_reducible exact H2_) | with_reducible exact H | (rw [hy106]; exact H) | exact H
    have Ny106 := Aside0.mk hy106
    clear hy106
    simp only [Option.some.injEq, Prod.mk.injEq] at H
    obtain ⟨rfl, rfl, rfl, rfl, rfl⟩ := H
    go_enter Try.func84, Try.ntmps84
    go_wp2_with (first | ((with_reducible refine gate_dst (N := 1) rfl ?_); refine box_event ?hg (N := 1) ?hd (cs := #[.bool a0_0, .int .u32 a0_1, .bool a0_2, .int .i64 a0_3, .slice A0_4 l0_4.length c0_4]) (t := 25) ?hr ?_; (case hd => rfl); (case hg => rfl); (case hr => first | (go_simp; done) | (go_simp; rfl)); intro gb101 hg w3 hbox hb; have n0_ := Aside0.mk (below_step (by repeat (first | (with_reducible first | exact HB.out | apply below_alloc | apply pw_below_drewN | apply below_drew1) | exact HB.out)) hb); have n1_ := Aside0.mk (hbox); have n2_ := Aside0.mk ((by rw [hg]; exact (below_size (by repeat (first | (with_reducible first | exact HB.out | apply below_alloc | apply pw_below_drewN | apply below_drew1) | exact HB.out))) : w.heap.size ≤ gb101)); have n3_ := Aside0.mk ((by rw [hg]; exact (below_size (by repeat (first | (with_reducible first | exact HB.out | apply below_alloc | apply pw_below_drewN | apply below_drew1) | exact HB.out))) : w.heap.size ≤ gb101)); clear HB; have HB := n0_; have BK101 := n1_; have GW101 := n2_; have GE101 := n3_; clear n0_ n1_ n2_ n3_; clear hb hbox hg) | ((with_reducible refine gate_dst (N := 2) rfl ?_); refine box_event ?hg (N := 2) ?hd (cs := #[.bool false, .int .u32 0, .bool false, .int .i64 0, .slice none 0 0]) (t := 25) ?hr ?_; (case hd => rfl); (case hg => rfl); (case hr => first | (go_simp; done) | (go_simp; rfl)); intro gb102 hg w4 hbox hb; have n0_ := Aside0.mk (blk_below (g := gb101) (o := .cells #[.bool a0_0, .int .u32 a0_1, .bool a0_2, .int .i64 a0_3, .slice A0_4 l0_4.length c0_4] 25 (0, 0)) (by (with_reducible repeat (first | refine blk_drewN ?_ _ | refine blk_drew ?_ | refine blk_alloc ?_ _)); exact BK101.out) hb); have n1_ := Aside0.mk (below_step (by repeat (first | (with_reducible first | exact HB.out | apply below_alloc | apply pw_below_drewN | apply below_drew1 | refine below_set ?_ GE101.out) | exact HB.out)) hb); have n2_ := Aside0.mk (hbox); have n3_ := Aside0.mk ((by rw [hg]; exact (below_size (by repeat (first | (with_reducible first | exact HB.out | apply below_alloc | apply pw_below_drewN | apply below_drew1 | refine below_set ?_ GE101.out) | exact HB.out))) : w.heap.size ≤ gb102)); have n4_ := Aside0.mk ((by rw [hg]; exact (below_size (by repeat (first | (with_reducible first | exact HB.out | apply below_alloc | apply pw_below_drewN | apply below_drew1 | refine below_set ?_ GE101.out) | exact HB.out))) : w.heap.size ≤ gb102)); have n5_ := Aside0.mk ((by rw [hg]; exact Nat.ne_of_lt (blk_lt (g := gb101) (o := .cells #[.bool a0_0, .int .u32 a0_1, .bool a0_2, .int .i64 a0_3, .slice A0_4 l0_4.length c0_4] 25 (0, 0)) (by (with_reducible repeat (first | refine blk_drewN ?_ _ | refine blk_drew ?_ | refine blk_alloc ?_ _)); exact BK101.out)) : gb101 ≠ gb102)); have n6_ := Aside0.mk ((by rw [hg]; exact Nat.ne_of_gt (blk_lt (g := gb101) (o := .cells #[.bool a0_0, .int .u32 a0_1, .bool a0_2, .int .i64 a0_3, .slice A0_4 l0_4.length c0_4] 25 (0, 0)) (by (with_reducible repeat (first | refine blk_drewN ?_ _ | refine blk_drew ?_ | refine blk_alloc ?_ _)); exact BK101.out)) : gb102 ≠ gb101)); clear BK101; clear HB; have BK101 := n0_; have HB := n1_; have BK102 := n2_; have GW102 := n3_; have GE102 := n4_; have NB101_102 := n5_; have NB102_101 := n6_; clear n0_ n1_ n2_ n3_ n4_ n5_ n6_; clear hb hbox hg) | ((with_reducible refine gate_dst (N := 3) rfl ?_); refine Kd.R_lit (Kd.int .u8) _ 5 ?hg (N := 3) ?hd (xs := ([] : List Int)) (inner := []) (ok := fun _ => True) (okp := fun _ => True) ?hr ?hp (fun _ hk => hk) trivial (Below.refl _ _) (Nat.le_refl _) (by simp) ?_; (case hd => rfl); (case hg => rfl); (case hr => first | (go_simp; done) | (go_simp; rfl)); (case hp => exact (Reps.none _ _)); intro v104 w5 ho6 hb hg_ hnew_; clear hg_ hnew_; (first | rw [← Ny103.out] at ho6 | (simp only [Int.reduceToNat] at ho6; rw [← Ny103.out] at ho6)); have n0_ := Aside0.mk (Kd.R_lower ho6 (below_size (by repeat (first | (with_reducible first | exact HB.out | apply below_alloc | apply pw_below_drewN | apply below_drew1 | refine below_set ?_ GE101.out | refine below_set ?_ GE102.out) | exact HB.out)))); have n1_ := Aside0.mk (blk_below (g := gb101) (o := .cells #[.bool a0_0, .int .u32 a0_1, .bool a0_2, .int .i64 a0_3, .slice A0_4 l0_4.length c0_4] 25 (0, 0)) (by (with_reducible repeat (first | refine blk_drewN ?_ _ | refine blk_drew ?_ | refine blk_alloc ?_ _)); exact BK101.out) hb); have n2_ := Aside0.mk (blk_below (g := gb102) (o := .cells #[.bool false, .int .u32 0, .bool false, .int .i64 0, .slice none 0 0] 25 (0, 0)) (by (with_reducible repeat (first | refine blk_drewN ?_ _ | refine blk_drew ?_ | refine blk_alloc ?_ _)); exact BK102.out) hb); have n3_ := Aside0.mk (below_step (by repeat (first | (with_reducible first | exact HB.out | apply below_alloc | apply pw_below_drewN | apply below_drew1 | refine below_set ?_ GE101.out | refine below_set ?_ GE102.out) | exact HB.out)) hb); clear BK101; clear BK102; clear HB; have HO105 := n0_; have BK101 := n1_; have BK102 := n2_; have HB := n3_; clear n0_ n1_ n2_ n3_; clear hb ho6; have hnb7 := NB101_102.out; have hnc7 := NB102_101.out; have hcz8_0 : w5.cell? ⟨gb101, 0, none⟩ = some (.bool a0_0) := (blk_cell BK101.out 0).trans rfl; have hcz8_1 : w5.cell? ⟨gb101, 1, none⟩ = some (.int .u32 a0_1) := (blk_cell BK101.out 1).trans rfl; have hcz8_2 : w5.cell? ⟨gb101, 2, none⟩ = some (.bool a0_2) := (blk_cell BK101.out 2).trans rfl; have hcz8_3 : w5.cell? ⟨gb101, 3, none⟩ = some (.int .i64 a0_3) := (blk_cell BK101.out 3).trans rfl; have hcz8_4 : w5.cell? ⟨gb101, 4, none⟩ = some (.slice A0_4 l0_4.length c0_4) := (blk_cell BK101.out 4).trans rfl; have hfz8_0 := blk_frozen BK101.out 0; have hfz8_1 := blk_frozen BK101.out 1; have hfz8_2 := blk_frozen BK101.out 2; have hfz8_3 := blk_frozen BK101.out 3; have hfz8_4 := blk_frozen BK101.out 4) | ((with_reducible refine gate_builtin (b := .append) (xs := #[.tmp 3, .tmp 5]) rfl ?_); at_builtin; refine Kd.R_append_rows (Kd.int .u8) (w0 := w) w.heap.size rfl (.tmp 3) (.tmp 5) 22 5 (.int .u8 0) 1 rfl Try.underlying22 info5 rfl (by decide) (by omega) v104 y103 l0_4 _ _ _ (fun _ => True) (fun _ => False) rfl rfl ?aO ?aR (fun _ _ h => h) (fun _ h => h.elim) ?aF ?aB ?aS ?aL ?_; (case aR => repeat (first | exact (Kd.C_below HR0_4.out HB.out) | (with_reducible refine Kd.C_alloc ?_ _) | (with_reducible refine Kd.C_drewN ?_ _) | (with_reducible refine Kd.C_drew ?_))); (case aB => exact (by repeat (first | (with_reducible first | exact HB.out | apply below_alloc | apply pw_below_drewN | apply below_drew1 | refine below_set ?_ GE101.out | refine below_set ?_ GE102.out) | exact HB.out))); (case aF => exact (fun _ _ => trivial)); (case aO => exact (by (with_reducible repeat (first | apply Kd.R_alloc | apply Kd.R_drewN | apply Kd.R_drew)); exact HO105.out)); (case aS => exact (below_size (by repeat (first | (with_reducible first | exact HB.out | apply below_alloc | apply pw_below_drewN | apply below_drew1 | refine below_set ?_ GE101.out | refine below_set ?_ GE102.out) | exact HB.out)))); (case aL => have := LMc2.out; omega); intro v107 w9 ho hb hg hat; rw [← Ny106.out] at ho; have n0_ := Aside0.mk (blk_grown (g := gb101) (o := .cells #[.bool a0_0, .int .u32 a0_1, .bool a0_2, .int .i64 a0_3, .slice A0_4 l0_4.length c0_4] 25 (0, 0)) (by (with_reducible repeat (first | refine blk_drewN ?_ _ | refine blk_drew ?_ | refine blk_alloc ?_ _)); exact BK101.out) hg (Kd.R_ne HO105.out BK101.out (by decide))); have n1_ := Aside0.mk (blk_grown (g := gb102) (o := .cells #[.bool false, .int .u32 0, .bool false, .int .i64 0, .slice none 0 0] 25 (0, 0)) (by (with_reducible repeat (first | refine blk_drewN ?_ _ | refine blk_drew ?_ | refine blk_alloc ?_ _)); exact BK102.out) hg (Kd.R_ne HO105.out BK102.out (by decide))); have n2_ := Aside0.mk (hb); have n3_ := Aside0.mk (ho); clear BK101; clear BK102; clear HB; clear HO105; have BK101 := n0_; have BK102 := n1_; have HB := n2_; have HO108 := n3_; clear n0_ n1_ n2_ n3_; clear ho hb hg hat; obtain ⟨Ao10, co10, eo10⟩ := Kd.R_slice HO108.out; subst eo10; have hcz11_0 : w9.cell? ⟨gb101, 0, none⟩ = some (.bool a0_0) := (blk_cell BK101.out 0).trans rfl; have hcz11_1 : w9.cell? ⟨gb101, 1, none⟩ = some (.int .u32 a0_1) := (blk_cell BK101.out 1).trans rfl; have hcz11_2 : w9.cell? ⟨gb101, 2, none⟩ = some (.bool a0_2) := (blk_cell BK101.out 2).trans rfl; have hcz11_3 : w9.cell? ⟨gb101, 3, none⟩ = some (.int .i64 a0_3) := (blk_cell BK101.out 3).trans rfl; have hcz11_4 : w9.cell? ⟨gb101, 4, none⟩ = some (.slice A0_4 l0_4.length c0_4) := (blk_cell BK101.out 4).trans rfl; have hfz11_0 := blk_frozen BK101.out 0; have hfz11_1 := blk_frozen BK101.out 1; have hfz11_2 := blk_frozen BK101.out 2; have hfz11_3 := blk_frozen BK101.out 3; have hfz11_4 := blk_frozen BK101.out 4; have hcz12_0 : w9.cell? ⟨gb102, 0, none⟩ = some (.bool false) := (blk_cell BK102.out 0).trans rfl; have hcz12_1 : w9.cell? ⟨gb102, 1, none⟩ = some (.int .u32 0) := (blk_cell BK102.out 1).trans rfl; have hcz12_2 : w9.cell? ⟨gb102, 2, none⟩ = some (.bool false) := (blk_cell BK102.out 2).trans rfl; have hcz12_3 : w9.cell? ⟨gb102, 3, none⟩ = some (.int .i64 0) := (blk_cell BK102.out 3).trans rfl; have hcz12_4 : w9.cell? ⟨gb102, 4, none⟩ = some (.slice none 0 0) := (blk_cell BK102.out 4).trans rfl; have hfz12_0 := blk_frozen BK102.out 0; have hfz12_1 := blk_frozen BK102.out 1; have hfz12_2 := blk_frozen BK102.out 2; have hfz12_3 := blk_frozen BK102.out 3; have hfz12_4 := blk_frozen BK102.out 4))
    refine bodyPost_ret (results_cell_row rfl _ _ gb102 25 #[.bool a0_0, .int .u32 a0_1, .bool a0_2, .int .i64 a0_3, .slice Ao10 y106.length co10] (0, 0) _ rfl (by (with_reducible repeat (first | refine blk_drewN ?_ _ | refine blk_drew ?_ | refine blk_alloc ?_ _)); refine blk_put (cs := #[.bool a0_0, .int .u32 a0_1, .bool a0_2, .int .i64 a0_3, .slice none 0 0]) ?_ 4 _ rfl; (with_reducible repeat (first | refine blk_drewN ?_ _ | refine blk_drew ?_ | refine blk_alloc ?_ _)); refine blk_put (cs := #[.bool a0_0, .int .u32 a0_1, .bool a0_2, .int .i64 0, .slice none 0 0]) ?_ 3 _ rfl; (with_reducible repeat (first | refine blk_drewN ?_ _ | refine blk_drew ?_ | refine blk_alloc ?_ _)); refine blk_put (cs := #[.bool a0_0, .int .u32 a0_1, .bool false, .int .i64 0, .slice none 0 0]) ?_ 2 _ rfl; (with_reducible repeat (first | refine blk_drewN ?_ _ | refine blk_drew ?_ | refine blk_alloc ?_ _)); refine blk_put (cs := #[.bool a0_0, .int .u32 0, .bool false, .int .i64 0, .slice none 0 0]) ?_ 1 _ rfl; (with_reducible repeat (first | refine blk_drewN ?_ _ | refine blk_drew ?_ | refine blk_alloc ?_ _)); refine blk_put (cs := #[.bool false, .int .u32 0, .bool false, .int .i64 0, .slice none 0 0]) ?_ 0 _ rfl; (with_reducible repeat (first | refine blk_drewN ?_ _ | refine blk_drew ?_ | refine blk_alloc ?_ _)); refine blk_far ?_ NB102_101.out _; (with_reducible repeat (first | refine blk_drewN ?_ _ | refine blk_drew ?_ | refine blk_alloc ?_ _)); exact BK102.out) Try.underlying25 rfl (by kernel_rfl)) rfl ?_
    exact ⟨_, by first | rfl | (simp [errW_none, errW_some] <;> rfl) | (simp [*, errW_none, errW_some] <;> rfl), by (with_reducible repeat (first | apply Kd.R_alloc | apply Kd.R_drewN | apply Kd.R_drew)); exact Kd.R_mono (Kd.R_far (p := ⟨gb102, 4, none⟩) (Kd.R_far (p := ⟨gb102, 3, none⟩) (Kd.R_far (p := ⟨gb102, 2, none⟩) (Kd.R_far (p := ⟨gb102, 1, none⟩) (Kd.R_far (p := ⟨gb102, 0, none⟩) (Kd.R_far (p := ⟨gb101, 4, none⟩) (Kd.R_types (Kd.R_types HO108.out BK101.out (by decide)) BK102.out (by decide)) (fun _ hk => hk.1.2) (.slice Ao10 y106.length co10)) (fun _ hk => hk.2) (.bool a0_0)) (fun _ hk => hk.2) (.int .u32 a0_1)) (fun _ hk => hk.2) (.bool a0_2)) (fun _ hk => hk.2) (.int .i64 a0_3)) (fun _ hk => hk.2) (.slice Ao10 y106.length co10)) (fun _ hk => trivial), by repeat (first | (with_reducible first | exact HB.out | apply below_alloc | apply pw_below_drewN | apply below_drew1 | refine below_set ?_ GE101.out | refine below_set ?_ GE102.out) | exact HB.out)⟩
  · rw [if_neg c2] at H
    exact absurd H (by simp)
end Go.Proofs.Ytdoclpgciadjaaa.P

namespace Go.Proofs.Ytdoclpgciadjaaa.P
open Go.RowKit Go.Proofs.YtdoclpgciadjaaaW.PrintWords Go.Proofs.YtdoclpgciadjaaaW.PrintLast Go.Proofs.YtdoclpgciadjaaaW.PrintMore
set_option linter.unusedVariables false
set_option linter.unusedSimpArgs false
def impl_Decode.f (a0 : ByteArray) : Option (Bool × Int × Bool × Int × List Int × Int) := (impl_walkOver.f a0).bind fun bt110 => (if bt110.1 = 1 then ((impl_copyFrame.f bt110.2.2.2.2.2.2.2.1 bt110.2.2.2.2.2.2.2.2.1 bt110.2.2.2.2.2.2.2.2.2.1 bt110.2.2.2.2.2.2.2.2.2.2.1 bt110.2.2.2.2.2.2.2.2.2.2.2).bind fun bt125 => (some (bt125.1, bt125.2.1, bt125.2.2.1, bt125.2.2.2.1, bt125.2.2.2.2, bt110.1))) else (if bt110.1 = 2 then ((impl_copyFrame.f bt110.2.2.2.2.2.2.2.1 bt110.2.2.2.2.2.2.2.2.1 bt110.2.2.2.2.2.2.2.2.2.1 bt110.2.2.2.2.2.2.2.2.2.2.1 bt110.2.2.2.2.2.2.2.2.2.2.2).bind fun bt132 => (some (bt132.1, bt132.2.1, bt132.2.2.1, bt132.2.2.2.1, bt132.2.2.2.2, bt110.1))) else (some (false, 0, false, 0, ([] : List Int), bt110.1))))
set_option maxHeartbeats 8000000 in
set_option maxRecDepth 100000 in
theorem impl_Decode.calls (a0 : ByteArray) (r1 : Bool) (r2 : Int) (r3 : Bool) (r4 : Int) (r5 : List Int) (r6 : Int) (w : World) (h : impl_Decode.f a0 = some (r1, r2, r3, r4, r5, r6)) :
    Calls Try.prog 24 #[.string a0] w fun e w' => ∃ v4_ : Value, e = .returned (.tuple #[.agg #[.bool r1, .int .u32 r2, .bool r3, .int .i64 r4, v4_], .int .i64 r6]) ∧ Kd.R (Kd.int .u8) 5 w' w.heap.size (fun _ => True) v4_ r5 ∧ Below w.heap.size w w' := by
  have hu25 := Try.underlying25
  have hu116 := Try.underlying116
  have HB := Aside0.mk (Below.refl w.heap.size w)
  have H : ((impl_walkOver.f a0).bind fun bt110 => (if bt110.1 = 1 then ((impl_copyFrame.f bt110.2.2.2.2.2.2.2.1 bt110.2.2.2.2.2.2.2.2.1 bt110.2.2.2.2.2.2.2.2.2.1 bt110.2.2.2.2.2.2.2.2.2.2.1 bt110.2.2.2.2.2.2.2.2.2.2.2).bind fun bt125 => (some (bt125.1, bt125.2.1, bt125.2.2.1, bt125.2.2.2.1, bt125.2.2.2.2, bt110.1))) else (if bt110.1 = 2 then ((impl_copyFrame.f bt110.2.2.2.2.2.2.2.1 bt110.2.2.2.2.2.2.2.2.1 bt110.2.2.2.2.2.2.2.2.2.1 bt110.2.2.2.2.2.2.2.2.2.2.1 bt110.2.2.2.2.2.2.2.2.2.2.2).bind fun bt132 => (some (bt132.1, bt132.2.1, bt132.2.2.1, bt132.2.2.2.1, bt132.2.2.2.2, bt110.1))) else (some (false, 0, false, 0, ([] : List Int), bt110.1))))) = some (r1, r2, r3, r4, r5, r6) := h
  clear h
  replace H := Option.bind_eq_some_iff.mp H
  obtain ⟨⟨t110, t111, t112, t113, t114, t115, t116, t117, t118, t119, t120, t121⟩, A20, H⟩ := H
  replace H : (if t110 = 1 then ((impl_copyFrame.f t117 t118 t119 t120 t121).bind fun bt125 => (some (bt125.1, bt125.2.1, bt125.2.2.1, bt125.2.2.2.1, bt125.2.2.2.2, t110))) else (if t110 = 2 then ((impl_copyFrame.f t117 t118 t119 t120 t121).bind fun bt132 => (some (bt132.1, bt132.2.1, bt132.2.2.1, bt132.2.2.2.1, bt132.2.2.2.2, t110))) else (some (false, 0, false, 0, ([] : List Int), t110)))) = some (r1, r2, r3, r4, r5, r6) := H
  have A2 := Aside0.mk A20
  clear A20
  by_cases c3 : t110 = 1
  · rw [if_pos c3] at H
    have c3b0 : (t110 == 1) = true := beq_iff_eq.mpr c3
    have c3b1 : (t110 != 1) = false := bne_eq_false_iff_eq.mpr c3
    clear c3
    replace H := Option.bind_eq_some_iff.mp H
    obtain ⟨⟨t125, t126, t127, t128, t129⟩, A40, H⟩ := H
    replace H : (some (t125, t126, t127, t128, t129, t110)) = some (r1, r2, r3, r4, r5, r6) := H
    have A4 := Aside0.mk A40
    clear A40
    simp only [Option.some.injEq, Prod.mk.injEq] at H
    obtain ⟨rfl, rfl, rfl, rfl, rfl, rfl⟩ := H
    go_enter Try.func24, Try.ntmps24
    try go_wp2_with (first | ((with_reducible refine gate_dst (N := 2) rfl ?_); refine box_event ?hg (N := 2) ?hd (cs := #[.bool false, .int .u32 0, .bool false, .int .i64 0, .slice none 0 0]) (t := 25) ?hr ?_; (case hd => rfl); (case hg => rfl); (case hr => first | (go_simp; done) | (go_simp; rfl)); intro gb109 hg w5 hbox hb; have n0_ := Aside0.mk (below_step (by repeat (first | (with_reducible first | exact HB.out | apply below_alloc | apply pw_below_drewN | apply below_drew1) | exact HB.out)) hb); have n1_ := Aside0.mk (hbox); have n2_ := Aside0.mk ((by rw [hg]; exact (below_size (by repeat (first | (with_reducible first | exact HB.out | apply below_alloc | apply pw_below_drewN | apply below_drew1) | exact HB.out))) : w.heap.size ≤ gb109)); have n3_ := Aside0.mk ((by rw [hg]; exact (below_size (by repeat (first | (with_reducible first | exact HB.out | apply below_alloc | apply pw_below_drewN | apply below_drew1) | exact HB.out))) : w.heap.size ≤ gb109)); clear HB; have HB := n0_; have BK109 := n1_; have GW109 := n2_; have GE109 := n3_; clear n0_ n1_ n2_ n3_; clear hb hbox hg) | ((with_reducible refine gate_callee (f := 81) rfl ?_); refine goesL_ (some 6) rfl rfl Try.func81 (by kernel_rfl) rfl #[.string a0] rfl (by (try simp only [List.map_toArray, List.map_cons, List.map_nil]); first | done | rfl | (simp only [List.length_drop, List.length_take]; rfl)) ?_; (with_reducible refine (impl_walkOver.calls a0 t110 t111 t112 t113 t114 t115 t116 t117 t118 t119 t120 t121 _ A2.out).mono ?_); rintro e w6 ⟨v122, rfl, ho0, hb⟩; refine ⟨_, rfl, ?_⟩; have n0_ := Aside0.mk (Kd.R_lower ho0 (below_size (by repeat (first | (with_reducible first | exact HB.out | apply below_alloc | apply pw_below_drewN | apply below_drew1 | refine below_set ?_ GE109.out) | exact HB.out)))); have n1_ := Aside0.mk (blk_below (g := gb109) (o := .cells #[.bool false, .int .u32 0, .bool false, .int .i64 0, .slice none 0 0] 25 (0, 0)) (by (with_reducible repeat (first | refine blk_drewN ?_ _ | refine blk_drew ?_ | refine blk_alloc ?_ _)); exact BK109.out) hb); have n2_ := Aside0.mk (below_step (by repeat (first | (with_reducible first | exact HB.out | apply below_alloc | apply pw_below_drewN | apply below_drew1 | refine below_set ?_ GE109.out) | exact HB.out)) hb); clear BK109; clear HB; have HO123 := n0_; have BK109 := n1_; have HB := n2_; clear n0_ n1_ n2_; (try clear hb); (try clear hb2); (try clear hk); (try clear hi); (try clear ho0)) | ((with_reducible refine gate_dst (N := 4) rfl ?_); refine box_event ?hg (N := 4) ?hd (cs := #[.int .i64 0, .int .i64 0, .int .i64 0, .int .i64 0, .int .i32 0, .int .i64 0, .int .i64 0, .bool false, .int .u32 0, .bool false, .int .i64 0, .slice none 0 0]) (t := 116) ?hr ?_; (case hd => rfl); (case hg => rfl); (case hr => first | (go_simp; done) | (go_simp; rfl)); intro gb124 hg w7 hbox hb; have n0_ := Aside0.mk (Kd.R_below (by (with_reducible repeat (first | apply Kd.R_alloc | apply Kd.R_drewN | apply Kd.R_drew)); exact HO123.out) hb); have n1_ := Aside0.mk (blk_below (g := gb109) (o := .cells #[.bool false, .int .u32 0, .bool false, .int .i64 0, .slice none 0 0] 25 (0, 0)) (by (with_reducible repeat (first | refine blk_drewN ?_ _ | refine blk_drew ?_ | refine blk_alloc ?_ _)); exact BK109.out) hb); have n2_ := Aside0.mk (below_step (by repeat (first | (with_reducible first | exact HB.out | apply below_alloc | apply pw_below_drewN | apply below_drew1 | refine below_set ?_ GE109.out) | exact HB.out)) hb); have n3_ := Aside0.mk (hbox); have n4_ := Aside0.mk ((by rw [hg]; exact (below_size (by repeat (first | (with_reducible first | exact HB.out | apply below_alloc | apply pw_below_drewN | apply below_drew1 | refine below_set ?_ GE109.out) | exact HB.out))) : w.heap.size ≤ gb124)); have n5_ := Aside0.mk ((by rw [hg]; exact (below_size (by repeat (first | (with_reducible first | exact HB.out | apply below_alloc | apply pw_below_drewN | apply below_drew1 | refine below_set ?_ GE109.out) | exact HB.out))) : w.heap.size ≤ gb124)); have n6_ := Aside0.mk ((by rw [hg]; exact Nat.ne_of_lt (blk_lt (g := gb109) (o := .cells #[.bool false, .int .u32 0, .bool false, .int .i64 0, .slice none 0 0] 25 (0, 0)) (by (with_reducible repeat (first | refine blk_drewN ?_ _ | refine blk_drew ?_ | refine blk_alloc ?_ _)); exact BK109.out)) : gb109 ≠ gb124)); have n7_ := Aside0.mk ((by rw [hg]; exact Nat.ne_of_gt (blk_lt (g := gb109) (o := .cells #[.bool false, .int .u32 0, .bool false, .int .i64 0, .slice none 0 0] 25 (0, 0)) (by (with_reducible repeat (first | refine blk_drewN ?_ _ | refine blk_drew ?_ | refine blk_alloc ?_ _)); exact BK109.out)) : gb124 ≠ gb109)); clear HO123; clear BK109; clear HB; have HO123 := n0_; have BK109 := n1_; have HB := n2_; have BK124 := n3_; have GW124 := n4_; have GE124 := n5_; have NB109_124 := n6_; have NB124_109 := n7_; clear n0_ n1_ n2_ n3_ n4_ n5_ n6_ n7_; clear hb hbox hg; have hnb8 := NB124_109.out; have hnc8 := NB109_124.out; have hcz9_0 : w7.cell? ⟨gb124, 0, none⟩ = some (.int .i64 0) := (blk_cell BK124.out 0).trans rfl; have hcz9_1 : w7.cell? ⟨gb124, 1, none⟩ = some (.int .i64 0) := (blk_cell BK124.out 1).trans rfl; have hcz9_2 : w7.cell? ⟨gb124, 2, none⟩ = some (.int .i64 0) := (blk_cell BK124.out 2).trans rfl; have hcz9_3 : w7.cell? ⟨gb124, 3, none⟩ = some (.int .i64 0) := (blk_cell BK124.out 3).trans rfl; have hcz9_4 : w7.cell? ⟨gb124, 4, none⟩ = some (.int .i32 0) := (blk_cell BK124.out 4).trans rfl; have hcz9_5 : w7.cell? ⟨gb124, 5, none⟩ = some (.int .i64 0) := (blk_cell BK124.out 5).trans rfl; have hcz9_6 : w7.cell? ⟨gb124, 6, none⟩ = some (.int .i64 0) := (blk_cell BK124.out 6).trans rfl; have hcz9_7 : w7.cell? ⟨gb124, 7, none⟩ = some (.bool false) := (blk_cell BK124.out 7).trans rfl; have hcz9_8 : w7.cell? ⟨gb124, 8, none⟩ = some (.int .u32 0) := (blk_cell BK124.out 8).trans rfl; have hcz9_9 : w7.cell? ⟨gb124, 9, none⟩ = some (.bool false) := (blk_cell BK124.out 9).trans rfl; have hcz9_10 : w7.cell? ⟨gb124, 10, none⟩ = some (.int .i64 0) := (blk_cell BK124.out 10).trans rfl; have hcz9_11 : w7.cell? ⟨gb124, 11, none⟩ = some (.slice none 0 0) := (blk_cell BK124.out 11).trans rfl; have hfz9_0 := blk_frozen BK124.out 0; have hfz9_1 := blk_frozen BK124.out 1; have hfz9_2 := blk_frozen BK124.out 2; have hfz9_3 := blk_frozen BK124.out 3; have hfz9_4 := blk_frozen BK124.out 4; have hfz9_5 := blk_frozen BK124.out 5; have hfz9_6 := blk_frozen BK124.out 6; have hfz9_7 := blk_frozen BK124.out 7; have hfz9_8 := blk_frozen BK124.out 8; have hfz9_9 := blk_frozen BK124.out 9; have hfz9_10 := blk_frozen BK124.out 10; have hfz9_11 := blk_frozen BK124.out 11; obtain ⟨Ao10, co10, eo10⟩ := Kd.R_slice HO123.out; subst eo10))
    have n0_ : Aside0 (Kd.R (Kd.int .u8) 5 ((((((((((((w7.setCell ⟨gb124, 0, none⟩ (.int .i64 t110)).setCell ⟨gb124, 1, none⟩ (.int .i64 t111)).setCell ⟨gb124, 2, none⟩ (.int .i64 t112)).setCell ⟨gb124, 3, none⟩ (.int .i64 t113)).setCell ⟨gb124, 4, none⟩ (.int .i32 t114)).setCell ⟨gb124, 5, none⟩ (.int .i64 t115)).setCell ⟨gb124, 6, none⟩ (.int .i64 t116)).setCell ⟨gb124, 7, none⟩ (.bool t117)).setCell ⟨gb124, 8, none⟩ (.int .u32 t118)).setCell ⟨gb124, 9, none⟩ (.bool t119)).setCell ⟨gb124, 10, none⟩ (.int .i64 t120)).setCell ⟨gb124, 11, none⟩ (.slice Ao10 t121.length co10)) w.heap.size (fun _ => True) (.slice Ao10 t121.length co10) t121) := ⟨by (with_reducible repeat (first | apply Kd.R_alloc | apply Kd.R_drewN | apply Kd.R_drew)); exact Kd.R_mono (Kd.R_far (p := ⟨gb124, 11, none⟩) (Kd.R_far (p := ⟨gb124, 10, none⟩) (Kd.R_far (p := ⟨gb124, 9, none⟩) (Kd.R_far (p := ⟨gb124, 8, none⟩) (Kd.R_far (p := ⟨gb124, 7, none⟩) (Kd.R_far (p := ⟨gb124, 6, none⟩) (Kd.R_far (p := ⟨gb124, 5, none⟩) (Kd.R_far (p := ⟨gb124, 4, none⟩) (Kd.R_far (p := ⟨gb124, 3, none⟩) (Kd.R_far (p := ⟨gb124, 2, none⟩) (Kd.R_far (p := ⟨gb124, 1, none⟩) (Kd.R_far (p := ⟨gb124, 0, none⟩) (Kd.R_types HO123.out BK124.out (by decide)) (fun _ hk => hk.2) (.int .i64 t110)) (fun _ hk => hk.2) (.int .i64 t111)) (fun _ hk => hk.2) (.int .i64 t112)) (fun _ hk => hk.2) (.int .i64 t113)) (fun _ hk => hk.2) (.int .i32 t114)) (fun _ hk => hk.2) (.int .i64 t115)) (fun _ hk => hk.2) (.int .i64 t116)) (fun _ hk => hk.2) (.bool t117)) (fun _ hk => hk.2) (.int .u32 t118)) (fun _ hk => hk.2) (.bool t119)) (fun _ hk => hk.2) (.int .i64 t120)) (fun _ hk => hk.2) (.slice Ao10 t121.length co10)) (fun _ hk => trivial)⟩
    have n1_ : Aside0 (((((((((((((w7.setCell ⟨gb124, 0, none⟩ (.int .i64 t110)).setCell ⟨gb124, 1, none⟩ (.int .i64 t111)).setCell ⟨gb124, 2, none⟩ (.int .i64 t112)).setCell ⟨gb124, 3, none⟩ (.int .i64 t113)).setCell ⟨gb124, 4, none⟩ (.int .i32 t114)).setCell ⟨gb124, 5, none⟩ (.int .i64 t115)).setCell ⟨gb124, 6, none⟩ (.int .i64 t116)).setCell ⟨gb124, 7, none⟩ (.bool t117)).setCell ⟨gb124, 8, none⟩ (.int .u32 t118)).setCell ⟨gb124, 9, none⟩ (.bool t119)).setCell ⟨gb124, 10, none⟩ (.int .i64 t120)).setCell ⟨gb124, 11, none⟩ (.slice Ao10 t121.length co10)).heap[gb109]? = some (.cells #[.bool false, .int .u32 0, .bool false, .int .i64 0, .slice none 0 0] 25 (0, 0))) := ⟨by (with_reducible repeat (first | refine blk_drewN ?_ _ | refine blk_drew ?_ | refine blk_alloc ?_ _)); refine blk_far ?_ NB109_124.out _; (with_reducible repeat (first | refine blk_drewN ?_ _ | refine blk_drew ?_ | refine blk_alloc ?_ _)); refine blk_far ?_ NB109_124.out _; (with_reducible repeat (first | refine blk_drewN ?_ _ | refine blk_drew ?_ | refine blk_alloc ?_ _)); refine blk_far ?_ NB109_124.out _; (with_reducible repeat (first | refine blk_drewN ?_ _ | refine blk_drew ?_ | refine blk_alloc ?_ _)); refine blk_far ?_ NB109_124.out _; (with_reducible repeat (first | refine blk_drewN ?_ _ | refine blk_drew ?_ | refine blk_alloc ?_ _)); refine blk_far ?_ NB109_124.out _; (with_reducible repeat (first | refine blk_drewN ?_ _ | refine blk_drew ?_ | refine blk_alloc ?_ _)); refine blk_far ?_ NB109_124.out _; (with_reducible repeat (first | refine blk_drewN ?_ _ | refine blk_drew ?_ | refine blk_alloc ?_ _)); refine blk_far ?_ NB109_124.out _; (with_reducible repeat (first | refine blk_drewN ?_ _ | refine blk_drew ?_ | refine blk_alloc ?_ _)); refine blk_far ?_ NB109_124.out _; (with_reducible repeat (first | refine blk_drewN ?_ _ | refine blk_drew ?_ | refine blk_alloc ?_ _)); refine blk_far ?_ NB109_124.out _; (with_reducible repeat (first | refine blk_drewN ?_ _ | refine blk_drew ?_ | refine blk_alloc ?_ _)); refine blk_far ?_ NB109_124.out _; (with_reducible repeat (first | refine blk_drewN ?_ _ | refine blk_drew ?_ | refine blk_alloc ?_ _)); refine blk_far ?_ NB109_124.out _; (with_reducible repeat (first | refine blk_drewN ?_ _ | refine blk_drew ?_ | refine blk_alloc ?_ _)); refine blk_far ?_ NB109_124.out _; (with_reducible repeat (first | refine blk_drewN ?_ _ | refine blk_drew ?_ | refine blk_alloc ?_ _)); exact BK109.out⟩
    have n2_ : Aside0 (((((((((((((w7.setCell ⟨gb124, 0, none⟩ (.int .i64 t110)).setCell ⟨gb124, 1, none⟩ (.int .i64 t111)).setCell ⟨gb124, 2, none⟩ (.int .i64 t112)).setCell ⟨gb124, 3, none⟩ (.int .i64 t113)).setCell ⟨gb124, 4, none⟩ (.int .i32 t114)).setCell ⟨gb124, 5, none⟩ (.int .i64 t115)).setCell ⟨gb124, 6, none⟩ (.int .i64 t116)).setCell ⟨gb124, 7, none⟩ (.bool t117)).setCell ⟨gb124, 8, none⟩ (.int .u32 t118)).setCell ⟨gb124, 9, none⟩ (.bool t119)).setCell ⟨gb124, 10, none⟩ (.int .i64 t120)).setCell ⟨gb124, 11, none⟩ (.slice Ao10 t121.length co10)).heap[gb124]? = some (.cells #[.int .i64 t110, .int .i64 t111, .int .i64 t112, .int .i64 t113, .int .i32 t114, .int .i64 t115, .int .i64 t116, .bool t117, .int .u32 t118, .bool t119, .int .i64 t120, .slice Ao10 t121.length co10] 116 (0, 0))) := ⟨by (with_reducible repeat (first | refine blk_drewN ?_ _ | refine blk_drew ?_ | refine blk_alloc ?_ _)); refine blk_put (cs := #[.int .i64 t110, .int .i64 t111, .int .i64 t112, .int .i64 t113, .int .i32 t114, .int .i64 t115, .int .i64 t116, .bool t117, .int .u32 t118, .bool t119, .int .i64 t120, .slice none 0 0]) ?_ 11 _ rfl; (with_reducible repeat (first | refine blk_drewN ?_ _ | refine blk_drew ?_ | refine blk_alloc ?_ _)); refine blk_put (cs := #[.int .i64 t110, .int .i64 t111, .int .i64 t112, .int .i64 t113, .int .i32 t114, .int .i64 t115, .int .i64 t116, .bool t117, .int .u32 t118, .bool t119, .int .i64 0, .slice none 0 0]) ?_ 10 _ rfl; (with_reducible repeat (first | refine blk_drewN ?_ _ | refine blk_drew ?_ | refine blk_alloc ?_ _)); refine blk_put (cs := #[.int .i64 t110, .int .i64 t111, .int .i64 t112, .int .i64 t113, .int .i32 t114, .int .i64 t115, .int .i64 t116, .bool t117, .int .u32 t118, .bool false, .int .i64 0, .slice none 0 0]) ?_ 9 _ rfl; (with_reducible repeat (first | refine blk_drewN ?_ _ | refine blk_drew ?_ | refine blk_alloc ?_ _)); refine blk_put (cs := #[.int .i64 t110, .int .i64 t111, .int .i64 t112, .int .i64 t113, .int .i32 t114, .int .i64 t115, .int .i64 t116, .bool t117, .int .u32 0, .bool false, .int .i64 0, .slice none 0 0]) ?_ 8 _ rfl; (with_reducible repeat (first | refine blk_drewN ?_ _ | refine blk_drew ?_ | refine blk_alloc ?_ _)); refine blk_put (cs := #[.int .i64 t110, .int .i64 t111, .int .i64 t112, .int .i64 t113, .int .i32 t114, .int .i64 t115, .int .i64 t116, .bool false, .int .u32 0, .bool false, .int .i64 0, .slice none 0 0]) ?_ 7 _ rfl; (with_reducible repeat (first | refine blk_drewN ?_ _ | refine blk_drew ?_ | refine blk_alloc ?_ _)); refine blk_put (cs := #[.int .i64 t110, .int .i64 t111, .int .i64 t112, .int .i64 t113, .int .i32 t114, .int .i64 t115, .int .i64 0, .bool false, .int .u32 0, .bool false, .int .i64 0, .slice none 0 0]) ?_ 6 _ rfl; (with_reducible repeat (first | refine blk_drewN ?_ _ | refine blk_drew ?_ | refine blk_alloc ?_ _)); refine blk_put (cs := #[.int .i64 t110, .int .i64 t111, .int .i64 t112, .int .i64 t113, .int .i32 t114, .int .i64 0, .int .i64 0, .bool false, .int .u32 0, .bool false, .int .i64 0, .slice none 0 0]) ?_ 5 _ rfl; (with_reducible repeat (first | refine blk_drewN ?_ _ | refine blk_drew ?_ | refine blk_alloc ?_ _)); refine blk_put (cs := #[.int .i64 t110, .int .i64 t111, .int .i64 t112, .int .i64 t113, .int .i32 0, .int .i64 0, .int .i64 0, .bool false, .int .u32 0, .bool false, .int .i64 0, .slice none 0 0]) ?_ 4 _ rfl; (with_reducible repeat (first | refine blk_drewN ?_ _ | refine blk_drew ?_ | refine blk_alloc ?_ _)); refine blk_put (cs := #[.int .i64 t110, .int .i64 t111, .int .i64 t112, .int .i64 0, .int .i32 0, .int .i64 0, .int .i64 0, .bool false, .int .u32 0, .bool false, .int .i64 0, .slice none 0 0]) ?_ 3 _ rfl; (with_reducible repeat (first | refine blk_drewN ?_ _ | refine blk_drew ?_ | refine blk_alloc ?_ _)); refine blk_put (cs := #[.int .i64 t110, .int .i64 t111, .int .i64 0, .int .i64 0, .int .i32 0, .int .i64 0, .int .i64 0, .bool false, .int .u32 0, .bool false, .int .i64 0, .slice none 0 0]) ?_ 2 _ rfl; (with_reducible repeat (first | refine blk_drewN ?_ _ | refine blk_drew ?_ | refine blk_alloc ?_ _)); refine blk_put (cs := #[.int .i64 t110, .int .i64 0, .int .i64 0, .int .i64 0, .int .i32 0, .int .i64 0, .int .i64 0, .bool false, .int .u32 0, .bool false, .int .i64 0, .slice none 0 0]) ?_ 1 _ rfl; (with_reducible repeat (first | refine blk_drewN ?_ _ | refine blk_drew ?_ | refine blk_alloc ?_ _)); refine blk_put (cs := #[.int .i64 0, .int .i64 0, .int .i64 0, .int .i64 0, .int .i32 0, .int .i64 0, .int .i64 0, .bool false, .int .u32 0, .bool false, .int .i64 0, .slice none 0 0]) ?_ 0 _ rfl; (with_reducible repeat (first | refine blk_drewN ?_ _ | refine blk_drew ?_ | refine blk_alloc ?_ _)); exact BK124.out⟩
    have n3_ : Aside0 (Below w.heap.size w ((((((((((((w7.setCell ⟨gb124, 0, none⟩ (.int .i64 t110)).setCell ⟨gb124, 1, none⟩ (.int .i64 t111)).setCell ⟨gb124, 2, none⟩ (.int .i64 t112)).setCell ⟨gb124, 3, none⟩ (.int .i64 t113)).setCell ⟨gb124, 4, none⟩ (.int .i32 t114)).setCell ⟨gb124, 5, none⟩ (.int .i64 t115)).setCell ⟨gb124, 6, none⟩ (.int .i64 t116)).setCell ⟨gb124, 7, none⟩ (.bool t117)).setCell ⟨gb124, 8, none⟩ (.int .u32 t118)).setCell ⟨gb124, 9, none⟩ (.bool t119)).setCell ⟨gb124, 10, none⟩ (.int .i64 t120)).setCell ⟨gb124, 11, none⟩ (.slice Ao10 t121.length co10))) := ⟨by repeat (first | (with_reducible first | exact HB.out | apply below_alloc | apply pw_below_drewN | apply below_drew1 | refine below_set ?_ GE109.out | refine below_set ?_ GE124.out) | exact HB.out)⟩
    (try clear HO123)
    (try clear BK109)
    (try clear BK124)
    (try clear HB)
    generalize ((((((((((((w7.setCell ⟨gb124, 0, none⟩ (.int .i64 t110)).setCell ⟨gb124, 1, none⟩ (.int .i64 t111)).setCell ⟨gb124, 2, none⟩ (.int .i64 t112)).setCell ⟨gb124, 3, none⟩ (.int .i64 t113)).setCell ⟨gb124, 4, none⟩ (.int .i32 t114)).setCell ⟨gb124, 5, none⟩ (.int .i64 t115)).setCell ⟨gb124, 6, none⟩ (.int .i64 t116)).setCell ⟨gb124, 7, none⟩ (.bool t117)).setCell ⟨gb124, 8, none⟩ (.int .u32 t118)).setCell ⟨gb124, 9, none⟩ (.bool t119)).setCell ⟨gb124, 10, none⟩ (.int .i64 t120)).setCell ⟨gb124, 11, none⟩ (.slice Ao10 t121.length co10)) = w11 at n0_ n1_ n2_ n3_ ⊢
    have HO123 := n0_
    have BK109 := n1_
    have BK124 := n2_
    have HB := n3_
    clear n0_ n1_ n2_ n3_
    have n0_ := Aside0.mk (Kd.R_drew HO123.out)
    have n1_ := Aside0.mk (blk_drew BK109.out)
    have n2_ := Aside0.mk (blk_drew BK124.out)
    have n3_ := Aside0.mk (below_drew1 HB.out)
    clear HO123
    clear BK109
    clear BK124
    clear HB
    have HO123 := n0_
    have BK109 := n1_
    have BK124 := n2_
    have HB := n3_
    clear n0_ n1_ n2_ n3_
    refine start_ (n := 7) (S := fun w' => w'.cell? ⟨gb124, 0, none⟩ = some (.int .i64 t110) ∧ w'.cell? ⟨gb124, 1, none⟩ = some (.int .i64 t111) ∧ w'.cell? ⟨gb124, 2, none⟩ = some (.int .i64 t112) ∧ w'.cell? ⟨gb124, 3, none⟩ = some (.int .i64 t113) ∧ w'.cell? ⟨gb124, 4, none⟩ = some (.int .i32 t114) ∧ w'.cell? ⟨gb124, 5, none⟩ = some (.int .i64 t115) ∧ w'.cell? ⟨gb124, 6, none⟩ = some (.int .i64 t116) ∧ w'.cell? ⟨gb124, 7, none⟩ = some (.bool t117) ∧ w'.cell? ⟨gb124, 8, none⟩ = some (.int .u32 t118) ∧ w'.cell? ⟨gb124, 9, none⟩ = some (.bool t119) ∧ w'.cell? ⟨gb124, 10, none⟩ = some (.int .i64 t120) ∧ w'.cell? ⟨gb124, 11, none⟩ = some (.slice Ao10 t121.length co10)) (ds := []) #[false, false, false, false, false, false, false] (by kernel_rfl) rfl rfl ⟨(blk_cell BK124.out 0).trans rfl, (blk_cell BK124.out 1).trans rfl, (blk_cell BK124.out 2).trans rfl, (blk_cell BK124.out 3).trans rfl, (blk_cell BK124.out 4).trans rfl, (blk_cell BK124.out 5).trans rfl, (blk_cell BK124.out 6).trans rfl, (blk_cell BK124.out 7).trans rfl, (blk_cell BK124.out 8).trans rfl, (blk_cell BK124.out 9).trans rfl, (blk_cell BK124.out 10).trans rfl, (blk_cell BK124.out 11).trans rfl⟩ (fun hHeld => ?_)
    generalize w11.drew = w12 at HO123 BK109 BK124 HB hHeld ⊢
    refine pure_ (i := 0) (N := some 18) (v := ?_) (a' := ?_) #[true, false, false, false, false, false, false] rfl rfl (by kernel_rfl) (fun _ _ _ h => h) (Or.inl ⟨by rfl, ?_⟩) ?_ ?_
    rotate_left
    · intro w'
      go_simp
      with_reducible rfl
    rotate_left
    · simp only [Act.put, List.setIfInBounds_toArray, List.set_cons_zero, List.set_cons_succ, i64_w, i32_w]
      rfl
    refine pure_ (i := 3) (N := some 21) (v := ?_) (a' := ?_) #[true, false, false, true, false, false, false] rfl rfl (by kernel_rfl) (fun _ _ _ h => h) (Or.inl ⟨by rfl, ?_⟩) ?_ ?_
    rotate_left
    · intro w'
      go_simp
      with_reducible rfl
    rotate_left
    · simp only [Act.put, List.setIfInBounds_toArray, List.set_cons_zero, List.set_cons_succ, i64_w, i32_w]
      rfl
    refine take_ (i := 1) (N := some 19) (v := ?_) (a' := ?_) #[true, true, false, true, false, false, false] rfl rfl (by kernel_rfl) (fun _ _ _ h => h) (Or.inl ⟨by rfl, ?_⟩) hHeld ?_ ?_
    rotate_left
    · rintro w' ⟨s0, s1, s2, s3, s4, s5, s6, s7, s8, s9, s10, s11⟩
      go_simp
      with_reducible rfl
    rotate_left
    · simp only [Act.put, List.setIfInBounds_toArray, List.set_cons_zero, List.set_cons_succ, i64_w, i32_w]
      rfl
    refine take_ (i := 4) (N := some 22) (v := ?_) (a' := ?_) #[true, true, false, true, true, false, false] rfl rfl (by kernel_rfl) (fun _ _ _ h => h) (Or.inl ⟨by rfl, ?_⟩) hHeld ?_ ?_
    rotate_left
    · rintro w' ⟨s0, s1, s2, s3, s4, s5, s6, s7, s8, s9, s10, s11⟩
      go_simp
      with_reducible rfl
    rotate_left
    · simp only [Act.put, List.setIfInBounds_toArray, List.set_cons_zero, List.set_cons_succ, i64_w, i32_w]
      rfl
    refine one_ (i := 2) (N := some 20) #[true, true, true, true, true, false, false] rfl rfl (by kernel_rfl) (by decide) (fun K hK => ?_)
    refine goes_ Try.func84 (by kernel_rfl) rfl #[.agg #[.bool t117, .int .u32 t118, .bool t119, .int .i64 t120, .slice Ao10 t121.length co10]] (by rfl) rfl rfl (by (try simp only [List.map_toArray, List.map_cons, List.map_nil]); first | done | rfl | (simp only [List.length_drop, List.length_take]; rfl)) ?_
    with_reducible refine (impl_copyFrame.calls t117 t118 t119 t120 _ _ t121 t125 t126 t127 t128 t129 _ ?side1 ?side2 A4.out).mono ?_
    (case side1 => repeat (first | exact (Kd.R_reads' HO123.out).2.2 | (with_reducible refine Kd.C_alloc ?_ _) | (with_reducible refine Kd.C_drewN ?_ _) | (with_reducible refine Kd.C_drew ?_)))
    (case side2 => exact (Kd.R_reads' HO123.out).2.1)
    rintro e w13 ⟨v130, rfl, ho0, hb⟩
    refine ⟨_, rfl, ?_⟩
    have n0_ := Aside0.mk (Kd.R_elder' (by (with_reducible repeat (first | apply Kd.R_alloc | apply Kd.R_drewN | apply Kd.R_drew)); exact HO123.out) (Kd.R_base ho0) hb)
    have n1_ := Aside0.mk (Kd.R_lower (Kd.R_new' ho0 (Kd.R_lt (by (with_reducible repeat (first | apply Kd.R_alloc | apply Kd.R_drewN | apply Kd.R_drew)); exact HO123.out))) (below_size (by repeat (first | (with_reducible first | exact HB.out | apply below_alloc | apply pw_below_drewN | apply below_drew1 | refine below_set ?_ GE109.out | refine below_set ?_ GE124.out) | exact HB.out))))
    have n2_ := Aside0.mk (blk_below (g := gb109) (o := .cells #[.bool false, .int .u32 0, .bool false, .int .i64 0, .slice none 0 0] 25 (0, 0)) (by (with_reducible repeat (first | refine blk_drewN ?_ _ | refine blk_drew ?_ | refine blk_alloc ?_ _)); exact BK109.out) hb)
    have n3_ := Aside0.mk (blk_below (g := gb124) (o := .cells #[.int .i64 t110, .int .i64 t111, .int .i64 t112, .int .i64 t113, .int .i32 t114, .int .i64 t115, .int .i64 t116, .bool t117, .int .u32 t118, .bool t119, .int .i64 t120, .slice Ao10 t121.length co10] 116 (0, 0)) (by (with_reducible repeat (first | refine blk_drewN ?_ _ | refine blk_drew ?_ | refine blk_alloc ?_ _)); exact BK124.out) hb)
    have n4_ := Aside0.mk (below_step (by repeat (first | (with_reducible first | exact HB.out | apply below_alloc | apply pw_below_drewN | apply below_drew1 | refine below_set ?_ GE109.out | refine below_set ?_ GE124.out) | exact HB.out)) hb)
    clear HO123
    clear BK109
    clear BK124
    clear HB
    have HO123 := n0_
    have HO131 := n1_
    have BK109 := n2_
    have BK124 := n3_
    have HB := n4_
    clear n0_ n1_ n2_ n3_ n4_
    (try clear hb)
    (try clear hb2)
    (try clear hk)
    (try clear hi)
    (try clear ho0)
    obtain ⟨Ao18, co18, eo18⟩ := Kd.R_slice HO131.out
    (first | subst eo18 | (injection eo18 with f1_ f2_ f3_; have f4_ := f1_.symm; have f5_ := f3_.symm; clear f1_ f2_ f3_; subst f4_; subst f5_))
    refine hK.out _ _ ⟨(blk_cell BK124.out 0).trans rfl, (blk_cell BK124.out 1).trans rfl, (blk_cell BK124.out 2).trans rfl, (blk_cell BK124.out 3).trans rfl, (blk_cell BK124.out 4).trans rfl, (blk_cell BK124.out 5).trans rfl, (blk_cell BK124.out 6).trans rfl, (blk_cell BK124.out 7).trans rfl, (blk_cell BK124.out 8).trans rfl, (blk_cell BK124.out 9).trans rfl, (blk_cell BK124.out 10).trans rfl, (blk_cell BK124.out 11).trans rfl⟩ (fun hHeld => ?_)
    clear hK K
    refine norm_ (a' := ?_) ?_ ?_
    rotate_left
    · show Act.put _ (some 20) _ = _
      simp only [Act.put, List.setIfInBounds_toArray, List.set_cons_zero, List.set_cons_succ, i64_w, i32_w]
      rfl
    refine one_ (i := 5) (N := none) #[true, true, true, true, true, true, false] rfl rfl (by kernel_rfl) (by decide) (fun K hK => ?_)
    have hs14 : w13.cell? ⟨gb109, 0, none⟩ = some (.bool false) := (blk_cell BK109.out 0).trans rfl
    have hfs14 := blk_frozen BK109.out 0
    have hns14_1 := NB124_109.out
    have hms14_1 := NB109_124.out
    have hs15 : w13.cell? ⟨gb109, 1, none⟩ = some (.int .u32 0) := (blk_cell BK109.out 1).trans rfl
    have hfs15 := blk_frozen BK109.out 1
    have hns15_1 := NB124_109.out
    have hms15_1 := NB109_124.out
    have hs16 : w13.cell? ⟨gb109, 2, none⟩ = some (.bool false) := (blk_cell BK109.out 2).trans rfl
    have hfs16 := blk_frozen BK109.out 2
    have hns16_1 := NB124_109.out
    have hms16_1 := NB109_124.out
    have hs17 : w13.cell? ⟨gb109, 3, none⟩ = some (.int .i64 0) := (blk_cell BK109.out 3).trans rfl
    have hfs17 := blk_frozen BK109.out 3
    have hns17_1 := NB124_109.out
    have hms17_1 := NB109_124.out
    have hs19 : w13.cell? ⟨gb109, 4, none⟩ = some (.slice none 0 0) := (blk_cell BK109.out 4).trans rfl
    have hfs19 := blk_frozen BK109.out 4
    have hns19_1 := NB124_109.out
    have hms19_1 := NB109_124.out
    refine skip_ (w1 := ?_) (by rfl) rfl ?_ ?_
    rotate_left
    · go_simp
      rfl
    refine hK.out _ _ ⟨((cell_far (p := ⟨gb109, _, none⟩) NB124_109.out _).trans (((cell_far (p := ⟨gb109, _, none⟩) NB124_109.out _).trans (((cell_far (p := ⟨gb109, _, none⟩) NB124_109.out _).trans (((cell_far (p := ⟨gb109, _, none⟩) NB124_109.out _).trans (((cell_far (p := ⟨gb109, _, none⟩) NB124_109.out _).trans (hHeld.1)))))))))), ((cell_far (p := ⟨gb109, _, none⟩) NB124_109.out _).trans (((cell_far (p := ⟨gb109, _, none⟩) NB124_109.out _).trans (((cell_far (p := ⟨gb109, _, none⟩) NB124_109.out _).trans (((cell_far (p := ⟨gb109, _, none⟩) NB124_109.out _).trans (((cell_far (p := ⟨gb109, _, none⟩) NB124_109.out _).trans (hHeld.2.1)))))))))), ((cell_far (p := ⟨gb109, _, none⟩) NB124_109.out _).trans (((cell_far (p := ⟨gb109, _, none⟩) NB124_109.out _).trans (((cell_far (p := ⟨gb109, _, none⟩) NB124_109.out _).trans (((cell_far (p := ⟨gb109, _, none⟩) NB124_109.out _).trans (((cell_far (p := ⟨gb109, _, none⟩) NB124_109.out _).trans (hHeld.2.2.1)))))))))), ((cell_far (p := ⟨gb109, _, none⟩) NB124_109.out _).trans (((cell_far (p := ⟨gb109, _, none⟩) NB124_109.out _).trans (((cell_far (p := ⟨gb109, _, none⟩) NB124_109.out _).trans (((cell_far (p := ⟨gb109, _, none⟩) NB124_109.out _).trans (((cell_far (p := ⟨gb109, _, none⟩) NB124_109.out _).trans (hHeld.2.2.2.1)))))))))), ((cell_far (p := ⟨gb109, _, none⟩) NB124_109.out _).trans (((cell_far (p := ⟨gb109, _, none⟩) NB124_109.out _).trans (((cell_far (p := ⟨gb109, _, none⟩) NB124_109.out _).trans (((cell_far (p := ⟨gb109, _, none⟩) NB124_109.out _).trans (((cell_far (p := ⟨gb109, _, none⟩) NB124_109.out _).trans (hHeld.2.2.2.2.1)))))))))), ((cell_far (p := ⟨gb109, _, none⟩) NB124_109.out _).trans (((cell_far (p := ⟨gb109, _, none⟩) NB124_109.out _).trans (((cell_far (p := ⟨gb109, _, none⟩) NB124_109.out _).trans (((cell_far (p := ⟨gb109, _, none⟩) NB124_109.out _).trans (((cell_far (p := ⟨gb109, _, none⟩) NB124_109.out _).trans (hHeld.2.2.2.2.2.1)))))))))), ((cell_far (p := ⟨gb109, _, none⟩) NB124_109.out _).trans (((cell_far (p := ⟨gb109, _, none⟩) NB124_109.out _).trans (((cell_far (p := ⟨gb109, _, none⟩) NB124_109.out _).trans (((cell_far (p := ⟨gb109, _, none⟩) NB124_109.out _).trans (((cell_far (p := ⟨gb109, _, none⟩) NB124_109.out _).trans (hHeld.2.2.2.2.2.2.1)))))))))), ((cell_far (p := ⟨gb109, _, none⟩) NB124_109.out _).trans (((cell_far (p := ⟨gb109, _, none⟩) NB124_109.out _).trans (((cell_far (p := ⟨gb109, _, none⟩) NB124_109.out _).trans (((cell_far (p := ⟨gb109, _, none⟩) NB124_109.out _).trans (((cell_far (p := ⟨gb109, _, none⟩) NB124_109.out _).trans (hHeld.2.2.2.2.2.2.2.1)))))))))), ((cell_far (p := ⟨gb109, _, none⟩) NB124_109.out _).trans (((cell_far (p := ⟨gb109, _, none⟩) NB124_109.out _).trans (((cell_far (p := ⟨gb109, _, none⟩) NB124_109.out _).trans (((cell_far (p := ⟨gb109, _, none⟩) NB124_109.out _).trans (((cell_far (p := ⟨gb109, _, none⟩) NB124_109.out _).trans (hHeld.2.2.2.2.2.2.2.2.1)))))))))), ((cell_far (p := ⟨gb109, _, none⟩) NB124_109.out _).trans (((cell_far (p := ⟨gb109, _, none⟩) NB124_109.out _).trans (((cell_far (p := ⟨gb109, _, none⟩) NB124_109.out _).trans (((cell_far (p := ⟨gb109, _, none⟩) NB124_109.out _).trans (((cell_far (p := ⟨gb109, _, none⟩) NB124_109.out _).trans (hHeld.2.2.2.2.2.2.2.2.2.1)))))))))), ((cell_far (p := ⟨gb109, _, none⟩) NB124_109.out _).trans (((cell_far (p := ⟨gb109, _, none⟩) NB124_109.out _).trans (((cell_far (p := ⟨gb109, _, none⟩) NB124_109.out _).trans (((cell_far (p := ⟨gb109, _, none⟩) NB124_109.out _).trans (((cell_far (p := ⟨gb109, _, none⟩) NB124_109.out _).trans (hHeld.2.2.2.2.2.2.2.2.2.2.1)))))))))), ((cell_far (p := ⟨gb109, _, none⟩) NB124_109.out _).trans (((cell_far (p := ⟨gb109, _, none⟩) NB124_109.out _).trans (((cell_far (p := ⟨gb109, _, none⟩) NB124_109.out _).trans (((cell_far (p := ⟨gb109, _, none⟩) NB124_109.out _).trans (((cell_far (p := ⟨gb109, _, none⟩) NB124_109.out _).trans (hHeld.2.2.2.2.2.2.2.2.2.2.2))))))))))⟩ (fun hHeld => ?_)
    clear hK K
    refine pure_ (i := 6) (N := some 3) (v := ?_) (a' := ?_) #[true, true, true, true, true, true, true] rfl rfl (by kernel_rfl) (fun _ _ _ h => h) (Or.inl ⟨by rfl, ?_⟩) ?_ ?_
    rotate_left
    · intro w'
      go_simp
      with_reducible rfl
    rotate_left
    · simp only [Act.put, List.setIfInBounds_toArray, List.set_cons_zero, List.set_cons_succ, i64_w, i32_w]
      rfl
    refine done_ (by kernel_rfl) ?_
    try go_wp2
    refine bodyPost_ret (results_ct rfl _ _ gb109 25 #[.bool t125, .int .u32 t126, .bool t127, .int .i64 t128, .slice Ao18 t129.length co18] (0, 0) _ rfl (by (with_reducible repeat (first | refine blk_drewN ?_ _ | refine blk_drew ?_ | refine blk_alloc ?_ _)); refine blk_put (cs := #[.bool t125, .int .u32 t126, .bool t127, .int .i64 t128, .slice none 0 0]) ?_ 4 _ rfl; (with_reducible repeat (first | refine blk_drewN ?_ _ | refine blk_drew ?_ | refine blk_alloc ?_ _)); refine blk_put (cs := #[.bool t125, .int .u32 t126, .bool t127, .int .i64 0, .slice none 0 0]) ?_ 3 _ rfl; (with_reducible repeat (first | refine blk_drewN ?_ _ | refine blk_drew ?_ | refine blk_alloc ?_ _)); refine blk_put (cs := #[.bool t125, .int .u32 t126, .bool false, .int .i64 0, .slice none 0 0]) ?_ 2 _ rfl; (with_reducible repeat (first | refine blk_drewN ?_ _ | refine blk_drew ?_ | refine blk_alloc ?_ _)); refine blk_put (cs := #[.bool t125, .int .u32 0, .bool false, .int .i64 0, .slice none 0 0]) ?_ 1 _ rfl; (with_reducible repeat (first | refine blk_drewN ?_ _ | refine blk_drew ?_ | refine blk_alloc ?_ _)); refine blk_put (cs := #[.bool false, .int .u32 0, .bool false, .int .i64 0, .slice none 0 0]) ?_ 0 _ rfl; (with_reducible repeat (first | refine blk_drewN ?_ _ | refine blk_drew ?_ | refine blk_alloc ?_ _)); exact BK109.out) Try.underlying25 rfl (by kernel_rfl)) rfl ?_
    exact ⟨_, by first | rfl | (simp [errW_none, errW_some] <;> rfl) | (simp [*, errW_none, errW_some] <;> rfl), by (with_reducible repeat (first | apply Kd.R_alloc | apply Kd.R_drewN | apply Kd.R_drew)); exact Kd.R_mono (Kd.R_far (p := ⟨gb109, 4, none⟩) (Kd.R_far (p := ⟨gb109, 3, none⟩) (Kd.R_far (p := ⟨gb109, 2, none⟩) (Kd.R_far (p := ⟨gb109, 1, none⟩) (Kd.R_far (p := ⟨gb109, 0, none⟩) (Kd.R_types HO131.out BK109.out (by decide)) (fun _ hk => hk.2) (.bool t125)) (fun _ hk => hk.2) (.int .u32 t126)) (fun _ hk => hk.2) (.bool t127)) (fun _ hk => hk.2) (.int .i64 t128)) (fun _ hk => hk.2) (.slice Ao18 t129.length co18)) (fun _ hk => trivial), by repeat (first | (with_reducible first | exact HB.out | apply below_alloc | apply pw_below_drewN | apply below_drew1 | refine below_set ?_ GE109.out | refine below_set ?_ GE124.out) | exact HB.out)⟩
  · rw [if_neg c3] at H
    have c3b0 : (t110 == 1) = false := beq_eq_false_iff_ne.mpr c3
    have c3b1 : (t110 != 1) = true := bne_iff_ne.mpr c3
    by_cases c20 : t110 = 2
    · rw [if_pos c20] at H
      have c20b0 : (t110 == 2) = true := beq_iff_eq.mpr c20
      have c20b1 : (t110 != 2) = false := bne_eq_false_iff_eq.mpr c20
      clear c20
      replace H := Option.bind_eq_some_iff.mp H
      obtain ⟨⟨t132, t133, t134, t135, t136⟩, A210, H⟩ := H
      replace H : (some (t132, t133, t134, t135, t136, t110)) = some (r1, r2, r3, r4, r5, r6) := H
      have A21 := Aside0.mk A210
      clear A210
      simp only [Option.some.injEq, Prod.mk.injEq] at H
      obtain ⟨rfl, rfl, rfl, rfl, rfl, rfl⟩ := H
      go_enter Try.func24, Try.ntmps24
      try go_wp2_with (first | ((with_reducible refine gate_dst (N := 2) rfl ?_); refine box_event ?hg (N := 2) ?hd (cs := #[.bool false, .int .u32 0, .bool false, .int .i64 0, .slice none 0 0]) (t := 25) ?hr ?_; (case hd => rfl); (case hg => rfl); (case hr => first | (go_simp; done) | (go_simp; rfl)); intro gb109 hg w22 hbox hb; have n0_ := Aside0.mk (below_step (by repeat (first | (with_reducible first | exact HB.out | apply below_alloc | apply pw_below_drewN | apply below_drew1) | exact HB.out)) hb); have n1_ := Aside0.mk (hbox); have n2_ := Aside0.mk ((by rw [hg]; exact (below_size (by repeat (first | (with_reducible first | exact HB.out | apply below_alloc | apply pw_below_drewN | apply below_drew1) | exact HB.out))) : w.heap.size ≤ gb109)); have n3_ := Aside0.mk ((by rw [hg]; exact (below_size (by repeat (first | (with_reducible first | exact HB.out | apply below_alloc | apply pw_below_drewN | apply below_drew1) | exact HB.out))) : w.heap.size ≤ gb109)); clear HB; have HB := n0_; have BK109 := n1_; have GW109 := n2_; have GE109 := n3_; clear n0_ n1_ n2_ n3_; clear hb hbox hg) | ((with_reducible refine gate_callee (f := 81) rfl ?_); refine goesL_ (some 6) rfl rfl Try.func81 (by kernel_rfl) rfl #[.string a0] rfl (by (try simp only [List.map_toArray, List.map_cons, List.map_nil]); first | done | rfl | (simp only [List.length_drop, List.length_take]; rfl)) ?_; (with_reducible refine (impl_walkOver.calls a0 t110 t111 t112 t113 t114 t115 t116 t117 t118 t119 t120 t121 _ A2.out).mono ?_); rintro e w23 ⟨v122, rfl, ho0, hb⟩; refine ⟨_, rfl, ?_⟩; have n0_ := Aside0.mk (Kd.R_lower ho0 (below_size (by repeat (first | (with_reducible first | exact HB.out | apply below_alloc | apply pw_below_drewN | apply below_drew1 | refine below_set ?_ GE109.out) | exact HB.out)))); have n1_ := Aside0.mk (blk_below (g := gb109) (o := .cells #[.bool false, .int .u32 0, .bool false, .int .i64 0, .slice none 0 0] 25 (0, 0)) (by (with_reducible repeat (first | refine blk_drewN ?_ _ | refine blk_drew ?_ | refine blk_alloc ?_ _)); exact BK109.out) hb); have n2_ := Aside0.mk (below_step (by repeat (first | (with_reducible first | exact HB.out | apply below_alloc | apply pw_below_drewN | apply below_drew1 | refine below_set ?_ GE109.out) | exact HB.out)) hb); clear BK109; clear HB; have HO123 := n0_; have BK109 := n1_; have HB := n2_; clear n0_ n1_ n2_; (try clear hb); (try clear hb2); (try clear hk); (try clear hi); (try clear ho0)) | ((with_reducible refine gate_dst (N := 4) rfl ?_); refine box_event ?hg (N := 4) ?hd (cs := #[.int .i64 0, .int .i64 0, .int .i64 0, .int .i64 0, .int .i32 0, .int .i64 0, .int .i64 0, .bool false, .int .u32 0, .bool false, .int .i64 0, .slice none 0 0]) (t := 116) ?hr ?_; (case hd => rfl); (case hg => rfl); (case hr => first | (go_simp; done) | (go_simp; rfl)); intro gb124 hg w24 hbox hb; have n0_ := Aside0.mk (Kd.R_below (by (with_reducible repeat (first | apply Kd.R_alloc | apply Kd.R_drewN | apply Kd.R_drew)); exact HO123.out) hb); have n1_ := Aside0.mk (blk_below (g := gb109) (o := .cells #[.bool false, .int .u32 0, .bool false, .int .i64 0, .slice none 0 0] 25 (0, 0)) (by (with_reducible repeat (first | refine blk_drewN ?_ _ | refine blk_drew ?_ | refine blk_alloc ?_ _)); exact BK109.out) hb); have n2_ := Aside0.mk (below_step (by repeat (first | (with_reducible first | exact HB.out | apply below_alloc | apply pw_below_drewN | apply below_drew1 | refine below_set ?_ GE109.out) | exact HB.out)) hb); have n3_ := Aside0.mk (hbox); have n4_ := Aside0.mk ((by rw [hg]; exact (below_size (by repeat (first | (with_reducible first | exact HB.out | apply below_alloc | apply pw_below_drewN | apply below_drew1 | refine below_set ?_ GE109.out) | exact HB.out))) : w.heap.size ≤ gb124)); have n5_ := Aside0.mk ((by rw [hg]; exact (below_size (by repeat (first | (with_reducible first | exact HB.out | apply below_alloc | apply pw_below_drewN | apply below_drew1 | refine below_set ?_ GE109.out) | exact HB.out))) : w.heap.size ≤ gb124)); have n6_ := Aside0.mk ((by rw [hg]; exact Nat.ne_of_lt (blk_lt (g := gb109) (o := .cells #[.bool false, .int .u32 0, .bool false, .int .i64 0, .slice none 0 0] 25 (0, 0)) (by (with_reducible repeat (first | refine blk_drewN ?_ _ | refine blk_drew ?_ | refine blk_alloc ?_ _)); exact BK109.out)) : gb109 ≠ gb124)); have n7_ := Aside0.mk ((by rw [hg]; exact Nat.ne_of_gt (blk_lt (g := gb109) (o := .cells #[.bool false, .int .u32 0, .bool false, .int .i64 0, .slice none 0 0] 25 (0, 0)) (by (with_reducible repeat (first | refine blk_drewN ?_ _ | refine blk_drew ?_ | refine blk_alloc ?_ _)); exact BK109.out)) : gb124 ≠ gb109)); clear HO123; clear BK109; clear HB; have HO123 := n0_; have BK109 := n1_; have HB := n2_; have BK124 := n3_; have GW124 := n4_; have GE124 := n5_; have NB109_124 := n6_; have NB124_109 := n7_; clear n0_ n1_ n2_ n3_ n4_ n5_ n6_ n7_; clear hb hbox hg; have hnb25 := NB124_109.out; have hnc25 := NB109_124.out; have hcz26_0 : w24.cell? ⟨gb124, 0, none⟩ = some (.int .i64 0) := (blk_cell BK124.out 0).trans rfl; have hcz26_1 : w24.cell? ⟨gb124, 1, none⟩ = some (.int .i64 0) := (blk_cell BK124.out 1).trans rfl; have hcz26_2 : w24.cell? ⟨gb124, 2, none⟩ = some (.int .i64 0) := (blk_cell BK124.out 2).trans rfl; have hcz26_3 : w24.cell? ⟨gb124, 3, none⟩ = some (.int .i64 0) := (blk_cell BK124.out 3).trans rfl; have hcz26_4 : w24.cell? ⟨gb124, 4, none⟩ = some (.int .i32 0) := (blk_cell BK124.out 4).trans rfl; have hcz26_5 : w24.cell? ⟨gb124, 5, none⟩ = some (.int .i64 0) := (blk_cell BK124.out 5).trans rfl; have hcz26_6 : w24.cell? ⟨gb124, 6, none⟩ = some (.int .i64 0) := (blk_cell BK124.out 6).trans rfl; have hcz26_7 : w24.cell? ⟨gb124, 7, none⟩ = some (.bool false) := (blk_cell BK124.out 7).trans rfl; have hcz26_8 : w24.cell? ⟨gb124, 8, none⟩ = some (.int .u32 0) := (blk_cell BK124.out 8).trans rfl; have hcz26_9 : w24.cell? ⟨gb124, 9, none⟩ = some (.bool false) := (blk_cell BK124.out 9).trans rfl; have hcz26_10 : w24.cell? ⟨gb124, 10, none⟩ = some (.int .i64 0) := (blk_cell BK124.out 10).trans rfl; have hcz26_11 : w24.cell? ⟨gb124, 11, none⟩ = some (.slice none 0 0) := (blk_cell BK124.out 11).trans rfl; have hfz26_0 := blk_frozen BK124.out 0; have hfz26_1 := blk_frozen BK124.out 1; have hfz26_2 := blk_frozen BK124.out 2; have hfz26_3 := blk_frozen BK124.out 3; have hfz26_4 := blk_frozen BK124.out 4; have hfz26_5 := blk_frozen BK124.out 5; have hfz26_6 := blk_frozen BK124.out 6; have hfz26_7 := blk_frozen BK124.out 7; have hfz26_8 := blk_frozen BK124.out 8; have hfz26_9 := blk_frozen BK124.out 9; have hfz26_10 := blk_frozen BK124.out 10; have hfz26_11 := blk_frozen BK124.out 11; obtain ⟨Ao27, co27, eo27⟩ := Kd.R_slice HO123.out; subst eo27))
      have n0_ : Aside0 (Kd.R (Kd.int .u8) 5 ((((((((((((w24.setCell ⟨gb124, 0, none⟩ (.int .i64 t110)).setCell ⟨gb124, 1, none⟩ (.int .i64 t111)).setCell ⟨gb124, 2, none⟩ (.int .i64 t112)).setCell ⟨gb124, 3, none⟩ (.int .i64 t113)).setCell ⟨gb124, 4, none⟩ (.int .i32 t114)).setCell ⟨gb124, 5, none⟩ (.int .i64 t115)).setCell ⟨gb124, 6, none⟩ (.int .i64 t116)).setCell ⟨gb124, 7, none⟩ (.bool t117)).setCell ⟨gb124, 8, none⟩ (.int .u32 t118)).setCell ⟨gb124, 9, none⟩ (.bool t119)).setCell ⟨gb124, 10, none⟩ (.int .i64 t120)).setCell ⟨gb124, 11, none⟩ (.slice Ao27 t121.length co27)) w.heap.size (fun _ => True) (.slice Ao27 t121.length co27) t121) := ⟨by (with_reducible repeat (first | apply Kd.R_alloc | apply Kd.R_drewN | apply Kd.R_drew)); exact Kd.R_mono (Kd.R_far (p := ⟨gb124, 11, none⟩) (Kd.R_far (p := ⟨gb124, 10, none⟩) (Kd.R_far (p := ⟨gb124, 9, none⟩) (Kd.R_far (p := ⟨gb124, 8, none⟩) (Kd.R_far (p := ⟨gb124, 7, none⟩) (Kd.R_far (p := ⟨gb124, 6, none⟩) (Kd.R_far (p := ⟨gb124, 5, none⟩) (Kd.R_far (p := ⟨gb124, 4, none⟩) (Kd.R_far (p := ⟨gb124, 3, none⟩) (Kd.R_far (p := ⟨gb124, 2, none⟩) (Kd.R_far (p := ⟨gb124, 1, none⟩) (Kd.R_far (p := ⟨gb124, 0, none⟩) (Kd.R_types HO123.out BK124.out (by decide)) (fun _ hk => hk.2) (.int .i64 t110)) (fun _ hk => hk.2) (.int .i64 t111)) (fun _ hk => hk.2) (.int .i64 t112)) (fun _ hk => hk.2) (.int .i64 t113)) (fun _ hk => hk.2) (.int .i32 t114)) (fun _ hk => hk.2) (.int .i64 t115)) (fun _ hk => hk.2) (.int .i64 t116)) (fun _ hk => hk.2) (.bool t117)) (fun _ hk => hk.2) (.int .u32 t118)) (fun _ hk => hk.2) (.bool t119)) (fun _ hk => hk.2) (.int .i64 t120)) (fun _ hk => hk.2) (.slice Ao27 t121.length co27)) (fun _ hk => trivial)⟩
      have n1_ : Aside0 (((((((((((((w24.setCell ⟨gb124, 0, none⟩ (.int .i64 t110)).setCell ⟨gb124, 1, none⟩ (.int .i64 t111)).setCell ⟨gb124, 2, none⟩ (.int .i64 t112)).setCell ⟨gb124, 3, none⟩ (.int .i64 t113)).setCell ⟨gb124, 4, none⟩ (.int .i32 t114)).setCell ⟨gb124, 5, none⟩ (.int .i64 t115)).setCell ⟨gb124, 6, none⟩ (.int .i64 t116)).setCell ⟨gb124, 7, none⟩ (.bool t117)).setCell ⟨gb124, 8, none⟩ (.int .u32 t118)).setCell ⟨gb124, 9, none⟩ (.bool t119)).setCell ⟨gb124, 10, none⟩ (.int .i64 t120)).setCell ⟨gb124, 11, none⟩ (.slice Ao27 t121.length co27)).heap[gb109]? = some (.cells #[.bool false, .int .u32 0, .bool false, .int .i64 0, .slice none 0 0] 25 (0, 0))) := ⟨by (with_reducible repeat (first | refine blk_drewN ?_ _ | refine blk_drew ?_ | refine blk_alloc ?_ _)); refine blk_far ?_ NB109_124.out _; (with_reducible repeat (first | refine blk_drewN ?_ _ | refine blk_drew ?_ | refine blk_alloc ?_ _)); refine blk_far ?_ NB109_124.out _; (with_reducible repeat (first | refine blk_drewN ?_ _ | refine blk_drew ?_ | refine blk_alloc ?_ _)); refine blk_far ?_ NB109_124.out _; (with_reducible repeat (first | refine blk_drewN ?_ _ | refine blk_drew ?_ | refine blk_alloc ?_ _)); refine blk_far ?_ NB109_124.out _; (with_reducible repeat (first | refine blk_drewN ?_ _ | refine blk_drew ?_ | refine blk_alloc ?_ _)); refine blk_far ?_ NB109_124.out _; (with_reducible repeat (first | refine blk_drewN ?_ _ | refine blk_drew ?_ | refine blk_alloc ?_ _)); refine blk_far ?_ NB109_124.out _; (with_reducible repeat (first | refine blk_drewN ?_ _ | refine blk_drew ?_ | refine blk_alloc ?_ _)); refine blk_far ?_ NB109_124.out _; (with_reducible repeat (first | refine blk_drewN ?_ _ | refine blk_drew ?_ | refine blk_alloc ?_ _)); refine blk_far ?_ NB109_124.out _; (with_reducible repeat (first | refine blk_drewN ?_ _ | refine blk_drew ?_ | refine blk_alloc ?_ _)); refine blk_far ?_ NB109_124.out _; (with_reducible repeat (first | refine blk_drewN ?_ _ | refine blk_drew ?_ | refine blk_alloc ?_ _)); refine blk_far ?_ NB109_124.out _; (with_reducible repeat (first | refine blk_drewN ?_ _ | refine blk_drew ?_ | refine blk_alloc ?_ _)); refine blk_far ?_ NB109_124.out _; (with_reducible repeat (first | refine blk_drewN ?_ _ | refine blk_drew ?_ | refine blk_alloc ?_ _)); refine blk_far ?_ NB109_124.out _; (with_reducible repeat (first | refine blk_drewN ?_ _ | refine blk_drew ?_ | refine blk_alloc ?_ _)); exact BK109.out⟩
      have n2_ : Aside0 (((((((((((((w24.setCell ⟨gb124, 0, none⟩ (.int .i64 t110)).setCell ⟨gb124, 1, none⟩ (.int .i64 t111)).setCell ⟨gb124, 2, none⟩ (.int .i64 t112)).setCell ⟨gb124, 3, none⟩ (.int .i64 t113)).setCell ⟨gb124, 4, none⟩ (.int .i32 t114)).setCell ⟨gb124, 5, none⟩ (.int .i64 t115)).setCell ⟨gb124, 6, none⟩ (.int .i64 t116)).setCell ⟨gb124, 7, none⟩ (.bool t117)).setCell ⟨gb124, 8, none⟩ (.int .u32 t118)).setCell ⟨gb124, 9, none⟩ (.bool t119)).setCell ⟨gb124, 10, none⟩ (.int .i64 t120)).setCell ⟨gb124, 11, none⟩ (.slice Ao27 t121.length co27)).heap[gb124]? = some (.cells #[.int .i64 t110, .int .i64 t111, .int .i64 t112, .int .i64 t113, .int .i32 t114, .int .i64 t115, .int .i64 t116, .bool t117, .int .u32 t118, .bool t119, .int .i64 t120, .slice Ao27 t121.length co27] 116 (0, 0))) := ⟨by (with_reducible repeat (first | refine blk_drewN ?_ _ | refine blk_drew ?_ | refine blk_alloc ?_ _)); refine blk_put (cs := #[.int .i64 t110, .int .i64 t111, .int .i64 t112, .int .i64 t113, .int .i32 t114, .int .i64 t115, .int .i64 t116, .bool t117, .int .u32 t118, .bool t119, .int .i64 t120, .slice none 0 0]) ?_ 11 _ rfl; (with_reducible repeat (first | refine blk_drewN ?_ _ | refine blk_drew ?_ | refine blk_alloc ?_ _)); refine blk_put (cs := #[.int .i64 t110, .int .i64 t111, .int .i64 t112, .int .i64 t113, .int .i32 t114, .int .i64 t115, .int .i64 t116, .bool t117, .int .u32 t118, .bool t119, .int .i64 0, .slice none 0 0]) ?_ 10 _ rfl; (with_reducible repeat (first | refine blk_drewN ?_ _ | refine blk_drew ?_ | refine blk_alloc ?_ _)); refine blk_put (cs := #[.int .i64 t110, .int .i64 t111, .int .i64 t112, .int .i64 t113, .int .i32 t114, .int .i64 t115, .int .i64 t116, .bool t117, .int .u32 t118, .bool false, .int .i64 0, .slice none 0 0]) ?_ 9 _ rfl; (with_reducible repeat (first | refine blk_drewN ?_ _ | refine blk_drew ?_ | refine blk_alloc ?_ _)); refine blk_put (cs := #[.int .i64 t110, .int .i64 t111, .int .i64 t112, .int .i64 t113, .int .i32 t114, .int .i64 t115, .int .i64 t116, .bool t117, .int .u32 0, .bool false, .int .i64 0, .slice none 0 0]) ?_ 8 _ rfl; (with_reducible repeat (first | refine blk_drewN ?_ _ | refine blk_drew ?_ | refine blk_alloc ?_ _)); refine blk_put (cs := #[.int .i64 t110, .int .i64 t111, .int .i64 t112, .int .i64 t113, .int .i32 t114, .int .i64 t115, .int .i64 t116, .bool false, .int .u32 0, .bool false, .int .i64 0, .slice none 0 0]) ?_ 7 _ rfl; (with_reducible repeat (first | refine blk_drewN ?_ _ | refine blk_drew ?_ | refine blk_alloc ?_ _)); refine blk_put (cs := #[.int .i64 t110, .int .i64 t111, .int .i64 t112, .int .i64 t113, .int .i32 t114, .int .i64 t115, .int .i64 0, .bool false, .int .u32 0, .bool false, .int .i64 0, .slice none 0 0]) ?_ 6 _ rfl; (with_reducible repeat (first | refine blk_drewN ?_ _ | refine blk_drew ?_ | refine blk_alloc ?_ _)); refine blk_put (cs := #[.int .i64 t110, .int .i64 t111, .int .i64 t112, .int .i64 t113, .int .i32 t114, .int .i64 0, .int .i64 0, .bool false, .int .u32 0, .bool false, .int .i64 0, .slice none 0 0]) ?_ 5 _ rfl; (with_reducible repeat (first | refine blk_drewN ?_ _ | refine blk_drew ?_ | refine blk_alloc ?_ _)); refine blk_put (cs := #[.int .i64 t110, .int .i64 t111, .int .i64 t112, .int .i64 t113, .int .i32 0, .int .i64 0, .int .i64 0, .bool false, .int .u32 0, .bool false, .int .i64 0, .slice none 0 0]) ?_ 4 _ rfl; (with_reducible repeat (first | refine blk_drewN ?_ _ | refine blk_drew ?_ | refine blk_alloc ?_ _)); refine blk_put (cs := #[.int .i64 t110, .int .i64 t111, .int .i64 t112, .int .i64 0, .int .i32 0, .int .i64 0, .int .i64 0, .bool false, .int .u32 0, .bool false, .int .i64 0, .slice none 0 0]) ?_ 3 _ rfl; (with_reducible repeat (first | refine blk_drewN ?_ _ | refine blk_drew ?_ | refine blk_alloc ?_ _)); refine blk_put (cs := #[.int .i64 t110, .int .i64 t111, .int .i64 0, .int .i64 0, .int .i32 0, .int .i64 0, .int .i64 0, .bool false, .int .u32 0, .bool false, .int .i64 0, .slice none 0 0]) ?_ 2 _ rfl; (with_reducible repeat (first | refine blk_drewN ?_ _ | refine blk_drew ?_ | refine blk_alloc ?_ _)); refine blk_put (cs := #[.int .i64 t110, .int .i64 0, .int .i64 0, .int .i64 0, .int .i32 0, .int .i64 0, .int .i64 0, .bool false, .int .u32 0, .bool false, .int .i64 0, .slice none 0 0]) ?_ 1 _ rfl; (with_reducible repeat (first | refine blk_drewN ?_ _ | refine blk_drew ?_ | refine blk_alloc ?_ _)); refine blk_put (cs := #[.int .i64 0, .int .i64 0, .int .i64 0, .int .i64 0, .int .i32 0, .int .i64 0, .int .i64 0, .bool false, .int .u32 0, .bool false, .int .i64 0, .slice none 0 0]) ?_ 0 _ rfl; (with_reducible repeat (first | refine blk_drewN ?_ _ | refine blk_drew ?_ | refine blk_alloc ?_ _)); exact BK124.out⟩
      have n3_ : Aside0 (Below w.heap.size w ((((((((((((w24.setCell ⟨gb124, 0, none⟩ (.int .i64 t110)).setCell ⟨gb124, 1, none⟩ (.int .i64 t111)).setCell ⟨gb124, 2, none⟩ (.int .i64 t112)).setCell ⟨gb124, 3, none⟩ (.int .i64 t113)).setCell ⟨gb124, 4, none⟩ (.int .i32 t114)).setCell ⟨gb124, 5, none⟩ (.int .i64 t115)).setCell ⟨gb124, 6, none⟩ (.int .i64 t116)).setCell ⟨gb124, 7, none⟩ (.bool t117)).setCell ⟨gb124, 8, none⟩ (.int .u32 t118)).setCell ⟨gb124, 9, none⟩ (.bool t119)).setCell ⟨gb124, 10, none⟩ (.int .i64 t120)).setCell ⟨gb124, 11, none⟩ (.slice Ao27 t121.length co27))) := ⟨by repeat (first | (with_reducible first | exact HB.out | apply below_alloc | apply pw_below_drewN | apply below_drew1 | refine below_set ?_ GE109.out | refine below_set ?_ GE124.out) | exact HB.out)⟩
      (try clear HO123)
      (try clear BK109)
      (try clear BK124)
      (try clear HB)
      generalize ((((((((((((w24.setCell ⟨gb124, 0, none⟩ (.int .i64 t110)).setCell ⟨gb124, 1, none⟩ (.int .i64 t111)).setCell ⟨gb124, 2, none⟩ (.int .i64 t112)).setCell ⟨gb124, 3, none⟩ (.int .i64 t113)).setCell ⟨gb124, 4, none⟩ (.int .i32 t114)).setCell ⟨gb124, 5, none⟩ (.int .i64 t115)).setCell ⟨gb124, 6, none⟩ (.int .i64 t116)).setCell ⟨gb124, 7, none⟩ (.bool t117)).setCell ⟨gb124, 8, none⟩ (.int .u32 t118)).setCell ⟨gb124, 9, none⟩ (.bool t119)).setCell ⟨gb124, 10, none⟩ (.int .i64 t120)).setCell ⟨gb124, 11, none⟩ (.slice Ao27 t121.length co27)) = w28 at n0_ n1_ n2_ n3_ ⊢
      have HO123 := n0_
      have BK109 := n1_
      have BK124 := n2_
      have HB := n3_
      clear n0_ n1_ n2_ n3_
      have n0_ := Aside0.mk (Kd.R_drew HO123.out)
      have n1_ := Aside0.mk (blk_drew BK109.out)
      have n2_ := Aside0.mk (blk_drew BK124.out)
      have n3_ := Aside0.mk (below_drew1 HB.out)
      clear HO123
      clear BK109
      clear BK124
      clear HB
      have HO123 := n0_
      have BK109 := n1_
      have BK124 := n2_
      have HB := n3_
      clear n0_ n1_ n2_ n3_
      refine start_ (n := 7) (S := fun w' => w'.cell? ⟨gb124, 0, none⟩ = some (.int .i64 t110) ∧ w'.cell? ⟨gb124, 1, none⟩ = some (.int .i64 t111) ∧ w'.cell? ⟨gb124, 2, none⟩ = some (.int .i64 t112) ∧ w'.cell? ⟨gb124, 3, none⟩ = some (.int .i64 t113) ∧ w'.cell? ⟨gb124, 4, none⟩ = some (.int .i32 t114) ∧ w'.cell? ⟨gb124, 5, none⟩ = some (.int .i64 t115) ∧ w'.cell? ⟨gb124, 6, none⟩ = some (.int .i64 t116) ∧ w'.cell? ⟨gb124, 7, none⟩ = some (.bool t117) ∧ w'.cell? ⟨gb124, 8, none⟩ = some (.int .u32 t118) ∧ w'.cell? ⟨gb124, 9, none⟩ = some (.bool t119) ∧ w'.cell? ⟨gb124, 10, none⟩ = some (.int .i64 t120) ∧ w'.cell? ⟨gb124, 11, none⟩ = some (.slice Ao27 t121.length co27)) (ds := []) #[false, false, false, false, false, false, false] (by kernel_rfl) rfl rfl ⟨(blk_cell BK124.out 0).trans rfl, (blk_cell BK124.out 1).trans rfl, (blk_cell BK124.out 2).trans rfl, (blk_cell BK124.out 3).trans rfl, (blk_cell BK124.out 4).trans rfl, (blk_cell BK124.out 5).trans rfl, (blk_cell BK124.out 6).trans rfl, (blk_cell BK124.out 7).trans rfl, (blk_cell BK124.out 8).trans rfl, (blk_cell BK124.out 9).trans rfl, (blk_cell BK124.out 10).trans rfl, (blk_cell BK124.out 11).trans rfl⟩ (fun hHeld => ?_)
      generalize w28.drew = w29 at HO123 BK109 BK124 HB hHeld ⊢
      refine pure_ (i := 0) (N := some 18) (v := ?_) (a' := ?_) #[true, false, false, false, false, false, false] rfl rfl (by kernel_rfl) (fun _ _ _ h => h) (Or.inl ⟨by rfl, ?_⟩) ?_ ?_
      rotate_left
      · intro w'
        go_simp
        with_reducible rfl
      rotate_left
      · simp only [Act.put, List.setIfInBounds_toArray, List.set_cons_zero, List.set_cons_succ, i64_w, i32_w]
        rfl
      refine pure_ (i := 3) (N := some 21) (v := ?_) (a' := ?_) #[true, false, false, true, false, false, false] rfl rfl (by kernel_rfl) (fun _ _ _ h => h) (Or.inl ⟨by rfl, ?_⟩) ?_ ?_
      rotate_left
      · intro w'
        go_simp
        with_reducible rfl
      rotate_left
      · simp only [Act.put, List.setIfInBounds_toArray, List.set_cons_zero, List.set_cons_succ, i64_w, i32_w]
        rfl
      refine take_ (i := 1) (N := some 19) (v := ?_) (a' := ?_) #[true, true, false, true, false, false, false] rfl rfl (by kernel_rfl) (fun _ _ _ h => h) (Or.inl ⟨by rfl, ?_⟩) hHeld ?_ ?_
      rotate_left
      · rintro w' ⟨s0, s1, s2, s3, s4, s5, s6, s7, s8, s9, s10, s11⟩
        go_simp
        with_reducible rfl
      rotate_left
      · simp only [Act.put, List.setIfInBounds_toArray, List.set_cons_zero, List.set_cons_succ, i64_w, i32_w]
        rfl
      refine take_ (i := 4) (N := some 22) (v := ?_) (a' := ?_) #[true, true, false, true, true, false, false] rfl rfl (by kernel_rfl) (fun _ _ _ h => h) (Or.inl ⟨by rfl, ?_⟩) hHeld ?_ ?_
      rotate_left
      · rintro w' ⟨s0, s1, s2, s3, s4, s5, s6, s7, s8, s9, s10, s11⟩
        go_simp
        with_reducible rfl
      rotate_left
      · simp only [Act.put, List.setIfInBounds_toArray, List.set_cons_zero, List.set_cons_succ, i64_w, i32_w]
        rfl
      refine one_ (i := 2) (N := some 20) #[true, true, true, true, true, false, false] rfl rfl (by kernel_rfl) (by decide) (fun K hK => ?_)
      refine goes_ Try.func84 (by kernel_rfl) rfl #[.agg #[.bool t117, .int .u32 t118, .bool t119, .int .i64 t120, .slice Ao27 t121.length co27]] (by rfl) rfl rfl (by (try simp only [List.map_toArray, List.map_cons, List.map_nil]); first | done | rfl | (simp only [List.length_drop, List.length_take]; rfl)) ?_
      with_reducible refine (impl_copyFrame.calls t117 t118 t119 t120 _ _ t121 t132 t133 t134 t135 t136 _ ?side1 ?side2 A21.out).mono ?_
      (case side1 => repeat (first | exact (Kd.R_reads' HO123.out).2.2 | (with_reducible refine Kd.C_alloc ?_ _) | (with_reducible refine Kd.C_drewN ?_ _) | (with_reducible refine Kd.C_drew ?_)))
      (case side2 => exact (Kd.R_reads' HO123.out).2.1)
      rintro e w30 ⟨v137, rfl, ho0, hb⟩
      refine ⟨_, rfl, ?_⟩
      have n0_ := Aside0.mk (Kd.R_elder' (by (with_reducible repeat (first | apply Kd.R_alloc | apply Kd.R_drewN | apply Kd.R_drew)); exact HO123.out) (Kd.R_base ho0) hb)
      have n1_ := Aside0.mk (Kd.R_lower (Kd.R_new' ho0 (Kd.R_lt (by (with_reducible repeat (first | apply Kd.R_alloc | apply Kd.R_drewN | apply Kd.R_drew)); exact HO123.out))) (below_size (by repeat (first | (with_reducible first | exact HB.out | apply below_alloc | apply pw_below_drewN | apply below_drew1 | refine below_set ?_ GE109.out | refine below_set ?_ GE124.out) | exact HB.out))))
      have n2_ := Aside0.mk (blk_below (g := gb109) (o := .cells #[.bool false, .int .u32 0, .bool false, .int .i64 0, .slice none 0 0] 25 (0, 0)) (by (with_reducible repeat (first | refine blk_drewN ?_ _ | refine blk_drew ?_ | refine blk_alloc ?_ _)); exact BK109.out) hb)
      have n3_ := Aside0.mk (blk_below (g := gb124) (o := .cells #[.int .i64 t110, .int .i64 t111, .int .i64 t112, .int .i64 t113, .int .i32 t114, .int .i64 t115, .int .i64 t116, .bool t117, .int .u32 t118, .bool t119, .int .i64 t120, .slice Ao27 t121.length co27] 116 (0, 0)) (by (with_reducible repeat (first | refine blk_drewN ?_ _ | refine blk_drew ?_ | refine blk_alloc ?_ _)); exact BK124.out) hb)
      have n4_ := Aside0.mk (below_step (by repeat (first | (with_reducible first | exact HB.out | apply below_alloc | apply pw_below_drewN | apply below_drew1 | refine below_set ?_ GE109.out | refine below_set ?_ GE124.out) | exact HB.out)) hb)
      clear HO123
      clear BK109
      clear BK124
      clear HB
      have HO123 := n0_
      have HO138 := n1_
      have BK109 := n2_
      have BK124 := n3_
      have HB := n4_
      clear n0_ n1_ n2_ n3_ n4_
      (try clear hb)
      (try clear hb2)
      (try clear hk)
      (try clear hi)
      (try clear ho0)
      obtain ⟨Ao35, co35, eo35⟩ := Kd.R_slice HO138.out
      (first | subst eo35 | (injection eo35 with f1_ f2_ f3_; have f4_ := f1_.symm; have f5_ := f3_.symm; clear f1_ f2_ f3_; subst f4_; subst f5_))
      refine hK.out _ _ ⟨(blk_cell BK124.out 0).trans rfl, (blk_cell BK124.out 1).trans rfl, (blk_cell BK124.out 2).trans rfl, (blk_cell BK124.out 3).trans rfl, (blk_cell BK124.out 4).trans rfl, (blk_cell BK124.out 5).trans rfl, (blk_cell BK124.out 6).trans rfl, (blk_cell BK124.out 7).trans rfl, (blk_cell BK124.out 8).trans rfl, (blk_cell BK124.out 9).trans rfl, (blk_cell BK124.out 10).trans rfl, (blk_cell BK124.out 11).trans rfl⟩ (fun hHeld => ?_)
      clear hK K
      refine norm_ (a' := ?_) ?_ ?_
      rotate_left
      · show Act.put _ (some 20) _ = _
        simp only [Act.put, List.setIfInBounds_toArray, List.set_cons_zero, List.set_cons_succ, i64_w, i32_w]
        rfl
      refine one_ (i := 5) (N := none) #[true, true, true, true, true, true, false] rfl rfl (by kernel_rfl) (by decide) (fun K hK => ?_)
      have hs31 : w30.cell? ⟨gb109, 0, none⟩ = some (.bool false) := (blk_cell BK109.out 0).trans rfl
      have hfs31 := blk_frozen BK109.out 0
      have hns31_1 := NB124_109.out
      have hms31_1 := NB109_124.out
      have hs32 : w30.cell? ⟨gb109, 1, none⟩ = some (.int .u32 0) := (blk_cell BK109.out 1).trans rfl
      have hfs32 := blk_frozen BK109.out 1
      have hns32_1 := NB124_109.out
      have hms32_1 := NB109_124.out
      have hs33 : w30.cell? ⟨gb109, 2, none⟩ = some (.bool false) := (blk_cell BK109.out 2).trans rfl
      have hfs33 := blk_frozen BK109.out 2
      have hns33_1 := NB124_109.out
      have hms33_1 := NB109_124.out
      have hs34 : w30.cell? ⟨gb109, 3, none⟩ = some (.int .i64 0) := (blk_cell BK109.out 3).trans rfl
      have hfs34 := blk_frozen BK109.out 3
      have hns34_1 := NB124_109.out
      have hms34_1 := NB109_124.out
      have hs36 : w30.cell? ⟨gb109, 4, none⟩ = some (.slice none 0 0) := (blk_cell BK109.out 4).trans rfl
      have hfs36 := blk_frozen BK109.out 4
      have hns36_1 := NB124_109.out
      have hms36_1 := NB109_124.out
      refine skip_ (w1 := ?_) (by rfl) rfl ?_ ?_
      rotate_left
      · go_simp
        rfl
      refine hK.out _ _ ⟨((cell_far (p := ⟨gb109, _, none⟩) NB124_109.out _).trans (((cell_far (p := ⟨gb109, _, none⟩) NB124_109.out _).trans (((cell_far (p := ⟨gb109, _, none⟩) NB124_109.out _).trans (((cell_far (p := ⟨gb109, _, none⟩) NB124_109.out _).trans (((cell_far (p := ⟨gb109, _, none⟩) NB124_109.out _).trans (hHeld.1)))))))))), ((cell_far (p := ⟨gb109, _, none⟩) NB124_109.out _).trans (((cell_far (p := ⟨gb109, _, none⟩) NB124_109.out _).trans (((cell_far (p := ⟨gb109, _, none⟩) NB124_109.out _).trans (((cell_far (p := ⟨gb109, _, none⟩) NB124_109.out _).trans (((cell_far (p := ⟨gb109, _, none⟩) NB124_109.out _).trans (hHeld.2.1)))))))))), ((cell_far (p := ⟨gb109, _, none⟩) NB124_109.out _).trans (((cell_far (p := ⟨gb109, _, none⟩) NB124_109.out _).trans (((cell_far (p := ⟨gb109, _, none⟩) NB124_109.out _).trans (((cell_far (p := ⟨gb109, _, none⟩) NB124_109.out _).trans (((cell_far (p := ⟨gb109, _, none⟩) NB124_109.out _).trans (hHeld.2.2.1)))))))))), ((cell_far (p := ⟨gb109, _, none⟩) NB124_109.out _).trans (((cell_far (p := ⟨gb109, _, none⟩) NB124_109.out _).trans (((cell_far (p := ⟨gb109, _, none⟩) NB124_109.out _).trans (((cell_far (p := ⟨gb109, _, none⟩) NB124_109.out _).trans (((cell_far (p := ⟨gb109, _, none⟩) NB124_109.out _).trans (hHeld.2.2.2.1)))))))))), ((cell_far (p := ⟨gb109, _, none⟩) NB124_109.out _).trans (((cell_far (p := ⟨gb109, _, none⟩) NB124_109.out _).trans (((cell_far (p := ⟨gb109, _, none⟩) NB124_109.out _).trans (((cell_far (p := ⟨gb109, _, none⟩) NB124_109.out _).trans (((cell_far (p := ⟨gb109, _, none⟩) NB124_109.out _).trans (hHeld.2.2.2.2.1)))))))))), ((cell_far (p := ⟨gb109, _, none⟩) NB124_109.out _).trans (((cell_far (p := ⟨gb109, _, none⟩) NB124_109.out _).trans (((cell_far (p := ⟨gb109, _, none⟩) NB124_109.out _).trans (((cell_far (p := ⟨gb109, _, none⟩) NB124_109.out _).trans (((cell_far (p := ⟨gb109, _, none⟩) NB124_109.out _).trans (hHeld.2.2.2.2.2.1)))))))))), ((cell_far (p := ⟨gb109, _, none⟩) NB124_109.out _).trans (((cell_far (p := ⟨gb109, _, none⟩) NB124_109.out _).trans (((cell_far (p := ⟨gb109, _, none⟩) NB124_109.out _).trans (((cell_far (p := ⟨gb109, _, none⟩) NB124_109.out _).trans (((cell_far (p := ⟨gb109, _, none⟩) NB124_109.out _).trans (hHeld.2.2.2.2.2.2.1)))))))))), ((cell_far (p := ⟨gb109, _, none⟩) NB124_109.out _).trans (((cell_far (p := ⟨gb109, _, none⟩) NB124_109.out _).trans (((cell_far (p := ⟨gb109, _, none⟩) NB124_109.out _).trans (((cell_far (p := ⟨gb109, _, none⟩) NB124_109.out _).trans (((cell_far (p := ⟨gb109, _, none⟩) NB124_109.out _).trans (hHeld.2.2.2.2.2.2.2.1)))))))))), ((cell_far (p := ⟨gb109, _, none⟩) NB124_109.out _).trans (((cell_far (p := ⟨gb109, _, none⟩) NB124_109.out _).trans (((cell_far (p := ⟨gb109, _, none⟩) NB124_109.out _).trans (((cell_far (p := ⟨gb109, _, none⟩) NB124_109.out _).trans (((cell_far (p := ⟨gb109, _, none⟩) NB124_109.out _).trans (hHeld.2.2.2.2.2.2.2.2.1)))))))))), ((cell_far (p := ⟨gb109, _, none⟩) NB124_109.out _).trans (((cell_far (p := ⟨gb109, _, none⟩) NB124_109.out _).trans (((cell_far (p := ⟨gb109, _, none⟩) NB124_109.out _).trans (((cell_far (p := ⟨gb109, _, none⟩) NB124_109.out _).trans (((cell_far (p := ⟨gb109, _, none⟩) NB124_109.out _).trans (hHeld.2.2.2.2.2.2.2.2.2.1)))))))))), ((cell_far (p := ⟨gb109, _, none⟩) NB124_109.out _).trans (((cell_far (p := ⟨gb109, _, none⟩) NB124_109.out _).trans (((cell_far (p := ⟨gb109, _, none⟩) NB124_109.out _).trans (((cell_far (p := ⟨gb109, _, none⟩) NB124_109.out _).trans (((cell_far (p := ⟨gb109, _, none⟩) NB124_109.out _).trans (hHeld.2.2.2.2.2.2.2.2.2.2.1)))))))))), ((cell_far (p := ⟨gb109, _, none⟩) NB124_109.out _).trans (((cell_far (p := ⟨gb109, _, none⟩) NB124_109.out _).trans (((cell_far (p := ⟨gb109, _, none⟩) NB124_109.out _).trans (((cell_far (p := ⟨gb109, _, none⟩) NB124_109.out _).trans (((cell_far (p := ⟨gb109, _, none⟩) NB124_109.out _).trans (hHeld.2.2.2.2.2.2.2.2.2.2.2))))))))))⟩ (fun hHeld => ?_)
      clear hK K
      refine pure_ (i := 6) (N := some 3) (v := ?_) (a' := ?_) #[true, true, true, true, true, true, true] rfl rfl (by kernel_rfl) (fun _ _ _ h => h) (Or.inl ⟨by rfl, ?_⟩) ?_ ?_
      rotate_left
      · intro w'
        go_simp
        with_reducible rfl
      rotate_left
      · simp only [Act.put, List.setIfInBounds_toArray, List.set_cons_zero, List.set_cons_succ, i64_w, i32_w]
        rfl
      refine done_ (by kernel_rfl) ?_
      try go_wp2
      refine bodyPost_ret (results_ct rfl _ _ gb109 25 #[.bool t132, .int .u32 t133, .bool t134, .int .i64 t135, .slice Ao35 t136.length co35] (0, 0) _ rfl (by (with_reducible repeat (first | refine blk_drewN ?_ _ | refine blk_drew ?_ | refine blk_alloc ?_ _)); refine blk_put (cs := #[.bool t132, .int .u32 t133, .bool t134, .int .i64 t135, .slice none 0 0]) ?_ 4 _ rfl; (with_reducible repeat (first | refine blk_drewN ?_ _ | refine blk_drew ?_ | refine blk_alloc ?_ _)); refine blk_put (cs := #[.bool t132, .int .u32 t133, .bool t134, .int .i64 0, .slice none 0 0]) ?_ 3 _ rfl; (with_reducible repeat (first | refine blk_drewN ?_ _ | refine blk_drew ?_ | refine blk_alloc ?_ _)); refine blk_put (cs := #[.bool t132, .int .u32 t133, .bool false, .int .i64 0, .slice none 0 0]) ?_ 2 _ rfl; (with_reducible repeat (first | refine blk_drewN ?_ _ | refine blk_drew ?_ | refine blk_alloc ?_ _)); refine blk_put (cs := #[.bool t132, .int .u32 0, .bool false, .int .i64 0, .slice none 0 0]) ?_ 1 _ rfl; (with_reducible repeat (first | refine blk_drewN ?_ _ | refine blk_drew ?_ | refine blk_alloc ?_ _)); refine blk_put (cs := #[.bool false, .int .u32 0, .bool false, .int .i64 0, .slice none 0 0]) ?_ 0 _ rfl; (with_reducible repeat (first | refine blk_drewN ?_ _ | refine blk_drew ?_ | refine blk_alloc ?_ _)); exact BK109.out) Try.underlying25 rfl (by kernel_rfl)) rfl ?_
      exact ⟨_, by first | rfl | (simp [errW_none, errW_some] <;> rfl) | (simp [*, errW_none, errW_some] <;> rfl), by (with_reducible repeat (first | apply Kd.R_alloc | apply Kd.R_drewN | apply Kd.R_drew)); exact Kd.R_mono (Kd.R_far (p := ⟨gb109, 4, none⟩) (Kd.R_far (p := ⟨gb109, 3, none⟩) (Kd.R_far (p := ⟨gb109, 2, none⟩) (Kd.R_far (p := ⟨gb109, 1, none⟩) (Kd.R_far (p := ⟨gb109, 0, none⟩) (Kd.R_types HO138.out BK109.out (by decide)) (fun _ hk => hk.2) (.bool t132)) (fun _ hk => hk.2) (.int .u32 t133)) (fun _ hk => hk.2) (.bool t134)) (fun _ hk => hk.2) (.int .i64 t135)) (fun _ hk => hk.2) (.slice Ao35 t136.length co35)) (fun _ hk => trivial), by repeat (first | (with_reducible first | exact HB.out | apply below_alloc | apply pw_below_drewN | apply below_drew1 | refine below_set ?_ GE109.out | refine below_set ?_ GE124.out) | exact HB.out)⟩
    · rw [if_neg c20] at H
      have c20b0 : (t110 == 2) = false := beq_eq_false_iff_ne.mpr c20
      have c20b1 : (t110 != 2) = true := bne_iff_ne.mpr c20
      simp only [Option.some.injEq, Prod.mk.injEq] at H
      obtain ⟨rfl, rfl, rfl, rfl, rfl, rfl⟩ := H
      go_enter Try.func24, Try.ntmps24
      try go_wp2_with (first | ((with_reducible refine gate_dst (N := 2) rfl ?_); refine box_event ?hg (N := 2) ?hd (cs := #[.bool false, .int .u32 0, .bool false, .int .i64 0, .slice none 0 0]) (t := 25) ?hr ?_; (case hd => rfl); (case hg => rfl); (case hr => first | (go_simp; done) | (go_simp; rfl)); intro gb109 hg w37 hbox hb; have n0_ := Aside0.mk (below_step (by repeat (first | (with_reducible first | exact HB.out | apply below_alloc | apply pw_below_drewN | apply below_drew1) | exact HB.out)) hb); have n1_ := Aside0.mk (hbox); have n2_ := Aside0.mk ((by rw [hg]; exact (below_size (by repeat (first | (with_reducible first | exact HB.out | apply below_alloc | apply pw_below_drewN | apply below_drew1) | exact HB.out))) : w.heap.size ≤ gb109)); have n3_ := Aside0.mk ((by rw [hg]; exact (below_size (by repeat (first | (with_reducible first | exact HB.out | apply below_alloc | apply pw_below_drewN | apply below_drew1) | exact HB.out))) : w.heap.size ≤ gb109)); clear HB; have HB := n0_; have BK109 := n1_; have GW109 := n2_; have GE109 := n3_; clear n0_ n1_ n2_ n3_; clear hb hbox hg) | ((with_reducible refine gate_callee (f := 81) rfl ?_); refine goesL_ (some 6) rfl rfl Try.func81 (by kernel_rfl) rfl #[.string a0] rfl (by (try simp only [List.map_toArray, List.map_cons, List.map_nil]); first | done | rfl | (simp only [List.length_drop, List.length_take]; rfl)) ?_; (with_reducible refine (impl_walkOver.calls a0 t110 t111 t112 t113 t114 t115 t116 t117 t118 t119 t120 t121 _ A2.out).mono ?_); rintro e w38 ⟨v122, rfl, ho0, hb⟩; refine ⟨_, rfl, ?_⟩; have n0_ := Aside0.mk (Kd.R_lower ho0 (below_size (by repeat (first | (with_reducible first | exact HB.out | apply below_alloc | apply pw_below_drewN | apply below_drew1 | refine below_set ?_ GE109.out) | exact HB.out)))); have n1_ := Aside0.mk (blk_below (g := gb109) (o := .cells #[.bool false, .int .u32 0, .bool false, .int .i64 0, .slice none 0 0] 25 (0, 0)) (by (with_reducible repeat (first | refine blk_drewN ?_ _ | refine blk_drew ?_ | refine blk_alloc ?_ _)); exact BK109.out) hb); have n2_ := Aside0.mk (below_step (by repeat (first | (with_reducible first | exact HB.out | apply below_alloc | apply pw_below_drewN | apply below_drew1 | refine below_set ?_ GE109.out) | exact HB.out)) hb); clear BK109; clear HB; have HO123 := n0_; have BK109 := n1_; have HB := n2_; clear n0_ n1_ n2_; (try clear hb); (try clear hb2); (try clear hk); (try clear hi); (try clear ho0)) | ((with_reducible refine gate_dst (N := 4) rfl ?_); refine box_event ?hg (N := 4) ?hd (cs := #[.int .i64 0, .int .i64 0, .int .i64 0, .int .i64 0, .int .i32 0, .int .i64 0, .int .i64 0, .bool false, .int .u32 0, .bool false, .int .i64 0, .slice none 0 0]) (t := 116) ?hr ?_; (case hd => rfl); (case hg => rfl); (case hr => first | (go_simp; done) | (go_simp; rfl)); intro gb124 hg w39 hbox hb; have n0_ := Aside0.mk (Kd.R_below (by (with_reducible repeat (first | apply Kd.R_alloc | apply Kd.R_drewN | apply Kd.R_drew)); exact HO123.out) hb); have n1_ := Aside0.mk (blk_below (g := gb109) (o := .cells #[.bool false, .int .u32 0, .bool false, .int .i64 0, .slice none 0 0] 25 (0, 0)) (by (with_reducible repeat (first | refine blk_drewN ?_ _ | refine blk_drew ?_ | refine blk_alloc ?_ _)); exact BK109.out) hb); have n2_ := Aside0.mk (below_step (by repeat (first | (with_reducible first | exact HB.out | apply below_alloc | apply pw_below_drewN | apply below_drew1 | refine below_set ?_ GE109.out) | exact HB.out)) hb); have n3_ := Aside0.mk (hbox); have n4_ := Aside0.mk ((by rw [hg]; exact (below_size (by repeat (first | (with_reducible first | exact HB.out | apply below_alloc | apply pw_below_drewN | apply below_drew1 | refine below_set ?_ GE109.out) | exact HB.out))) : w.heap.size ≤ gb124)); have n5_ := Aside0.mk ((by rw [hg]; exact (below_size (by repeat (first | (with_reducible first | exact HB.out | apply below_alloc | apply pw_below_drewN | apply below_drew1 | refine below_set ?_ GE109.out) | exact HB.out))) : w.heap.size ≤ gb124)); have n6_ := Aside0.mk ((by rw [hg]; exact Nat.ne_of_lt (blk_lt (g := gb109) (o := .cells #[.bool false, .int .u32 0, .bool false, .int .i64 0, .slice none 0 0] 25 (0, 0)) (by (with_reducible repeat (first | refine blk_drewN ?_ _ | refine blk_drew ?_ | refine blk_alloc ?_ _)); exact BK109.out)) : gb109 ≠ gb124)); have n7_ := Aside0.mk ((by rw [hg]; exact Nat.ne_of_gt (blk_lt (g := gb109) (o := .cells #[.bool false, .int .u32 0, .bool false, .int .i64 0, .slice none 0 0] 25 (0, 0)) (by (with_reducible repeat (first | refine blk_drewN ?_ _ | refine blk_drew ?_ | refine blk_alloc ?_ _)); exact BK109.out)) : gb124 ≠ gb109)); clear HO123; clear BK109; clear HB; have HO123 := n0_; have BK109 := n1_; have HB := n2_; have BK124 := n3_; have GW124 := n4_; have GE124 := n5_; have NB109_124 := n6_; have NB124_109 := n7_; clear n0_ n1_ n2_ n3_ n4_ n5_ n6_ n7_; clear hb hbox hg; have hnb40 := NB124_109.out; have hnc40 := NB109_124.out; have hcz41_0 : w39.cell? ⟨gb124, 0, none⟩ = some (.int .i64 0) := (blk_cell BK124.out 0).trans rfl; have hcz41_1 : w39.cell? ⟨gb124, 1, none⟩ = some (.int .i64 0) := (blk_cell BK124.out 1).trans rfl; have hcz41_2 : w39.cell? ⟨gb124, 2, none⟩ = some (.int .i64 0) := (blk_cell BK124.out 2).trans rfl; have hcz41_3 : w39.cell? ⟨gb124, 3, none⟩ = some (.int .i64 0) := (blk_cell BK124.out 3).trans rfl; have hcz41_4 : w39.cell? ⟨gb124, 4, none⟩ = some (.int .i32 0) := (blk_cell BK124.out 4).trans rfl; have hcz41_5 : w39.cell? ⟨gb124, 5, none⟩ = some (.int .i64 0) := (blk_cell BK124.out 5).trans rfl; have hcz41_6 : w39.cell? ⟨gb124, 6, none⟩ = some (.int .i64 0) := (blk_cell BK124.out 6).trans rfl; have hcz41_7 : w39.cell? ⟨gb124, 7, none⟩ = some (.bool false) := (blk_cell BK124.out 7).trans rfl; have hcz41_8 : w39.cell? ⟨gb124, 8, none⟩ = some (.int .u32 0) := (blk_cell BK124.out 8).trans rfl; have hcz41_9 : w39.cell? ⟨gb124, 9, none⟩ = some (.bool false) := (blk_cell BK124.out 9).trans rfl; have hcz41_10 : w39.cell? ⟨gb124, 10, none⟩ = some (.int .i64 0) := (blk_cell BK124.out 10).trans rfl; have hcz41_11 : w39.cell? ⟨gb124, 11, none⟩ = some (.slice none 0 0) := (blk_cell BK124.out 11).trans rfl; have hfz41_0 := blk_frozen BK124.out 0; have hfz41_1 := blk_frozen BK124.out 1; have hfz41_2 := blk_frozen BK124.out 2; have hfz41_3 := blk_frozen BK124.out 3; have hfz41_4 := blk_frozen BK124.out 4; have hfz41_5 := blk_frozen BK124.out 5; have hfz41_6 := blk_frozen BK124.out 6; have hfz41_7 := blk_frozen BK124.out 7; have hfz41_8 := blk_frozen BK124.out 8; have hfz41_9 := blk_frozen BK124.out 9; have hfz41_10 := blk_frozen BK124.out 10; have hfz41_11 := blk_frozen BK124.out 11; obtain ⟨Ao42, co42, eo42⟩ := Kd.R_slice HO123.out; subst eo42))
      have n0_ : Aside0 (Kd.R (Kd.int .u8) 5 ((((((((((((w39.setCell ⟨gb124, 0, none⟩ (.int .i64 t110)).setCell ⟨gb124, 1, none⟩ (.int .i64 t111)).setCell ⟨gb124, 2, none⟩ (.int .i64 t112)).setCell ⟨gb124, 3, none⟩ (.int .i64 t113)).setCell ⟨gb124, 4, none⟩ (.int .i32 t114)).setCell ⟨gb124, 5, none⟩ (.int .i64 t115)).setCell ⟨gb124, 6, none⟩ (.int .i64 t116)).setCell ⟨gb124, 7, none⟩ (.bool t117)).setCell ⟨gb124, 8, none⟩ (.int .u32 t118)).setCell ⟨gb124, 9, none⟩ (.bool t119)).setCell ⟨gb124, 10, none⟩ (.int .i64 t120)).setCell ⟨gb124, 11, none⟩ (.slice Ao42 t121.length co42)) w.heap.size (fun _ => True) (.slice Ao42 t121.length co42) t121) := ⟨by (with_reducible repeat (first | apply Kd.R_alloc | apply Kd.R_drewN | apply Kd.R_drew)); exact Kd.R_mono (Kd.R_far (p := ⟨gb124, 11, none⟩) (Kd.R_far (p := ⟨gb124, 10, none⟩) (Kd.R_far (p := ⟨gb124, 9, none⟩) (Kd.R_far (p := ⟨gb124, 8, none⟩) (Kd.R_far (p := ⟨gb124, 7, none⟩) (Kd.R_far (p := ⟨gb124, 6, none⟩) (Kd.R_far (p := ⟨gb124, 5, none⟩) (Kd.R_far (p := ⟨gb124, 4, none⟩) (Kd.R_far (p := ⟨gb124, 3, none⟩) (Kd.R_far (p := ⟨gb124, 2, none⟩) (Kd.R_far (p := ⟨gb124, 1, none⟩) (Kd.R_far (p := ⟨gb124, 0, none⟩) (Kd.R_types HO123.out BK124.out (by decide)) (fun _ hk => hk.2) (.int .i64 t110)) (fun _ hk => hk.2) (.int .i64 t111)) (fun _ hk => hk.2) (.int .i64 t112)) (fun _ hk => hk.2) (.int .i64 t113)) (fun _ hk => hk.2) (.int .i32 t114)) (fun _ hk => hk.2) (.int .i64 t115)) (fun _ hk => hk.2) (.int .i64 t116)) (fun _ hk => hk.2) (.bool t117)) (fun _ hk => hk.2) (.int .u32 t118)) (fun _ hk => hk.2) (.bool t119)) (fun _ hk => hk.2) (.int .i64 t120)) (fun _ hk => hk.2) (.slice Ao42 t121.length co42)) (fun _ hk => trivial)⟩
      have n1_ : Aside0 (((((((((((((w39.setCell ⟨gb124, 0, none⟩ (.int .i64 t110)).setCell ⟨gb124, 1, none⟩ (.int .i64 t111)).setCell ⟨gb124, 2, none⟩ (.int .i64 t112)).setCell ⟨gb124, 3, none⟩ (.int .i64 t113)).setCell ⟨gb124, 4, none⟩ (.int .i32 t114)).setCell ⟨gb124, 5, none⟩ (.int .i64 t115)).setCell ⟨gb124, 6, none⟩ (.int .i64 t116)).setCell ⟨gb124, 7, none⟩ (.bool t117)).setCell ⟨gb124, 8, none⟩ (.int .u32 t118)).setCell ⟨gb124, 9, none⟩ (.bool t119)).setCell ⟨gb124, 10, none⟩ (.int .i64 t120)).setCell ⟨gb124, 11, none⟩ (.slice Ao42 t121.length co42)).heap[gb109]? = some (.cells #[.bool false, .int .u32 0, .bool false, .int .i64 0, .slice none 0 0] 25 (0, 0))) := ⟨by (with_reducible repeat (first | refine blk_drewN ?_ _ | refine blk_drew ?_ | refine blk_alloc ?_ _)); refine blk_far ?_ NB109_124.out _; (with_reducible repeat (first | refine blk_drewN ?_ _ | refine blk_drew ?_ | refine blk_alloc ?_ _)); refine blk_far ?_ NB109_124.out _; (with_reducible repeat (first | refine blk_drewN ?_ _ | refine blk_drew ?_ | refine blk_alloc ?_ _)); refine blk_far ?_ NB109_124.out _; (with_reducible repeat (first | refine blk_drewN ?_ _ | refine blk_drew ?_ | refine blk_alloc ?_ _)); refine blk_far ?_ NB109_124.out _; (with_reducible repeat (first | refine blk_drewN ?_ _ | refine blk_drew ?_ | refine blk_alloc ?_ _)); refine blk_far ?_ NB109_124.out _; (with_reducible repeat (first | refine blk_drewN ?_ _ | refine blk_drew ?_ | refine blk_alloc ?_ _)); refine blk_far ?_ NB109_124.out _; (with_reducible repeat (first | refine blk_drewN ?_ _ | refine blk_drew ?_ | refine blk_alloc ?_ _)); refine blk_far ?_ NB109_124.out _; (with_reducible repeat (first | refine blk_drewN ?_ _ | refine blk_drew ?_ | refine blk_alloc ?_ _)); refine blk_far ?_ NB109_124.out _; (with_reducible repeat (first | refine blk_drewN ?_ _ | refine blk_drew ?_ | refine blk_alloc ?_ _)); refine blk_far ?_ NB109_124.out _; (with_reducible repeat (first | refine blk_drewN ?_ _ | refine blk_drew ?_ | refine blk_alloc ?_ _)); refine blk_far ?_ NB109_124.out _; (with_reducible repeat (first | refine blk_drewN ?_ _ | refine blk_drew ?_ | refine blk_alloc ?_ _)); refine blk_far ?_ NB109_124.out _; (with_reducible repeat (first | refine blk_drewN ?_ _ | refine blk_drew ?_ | refine blk_alloc ?_ _)); refine blk_far ?_ NB109_124.out _; (with_reducible repeat (first | refine blk_drewN ?_ _ | refine blk_drew ?_ | refine blk_alloc ?_ _)); exact BK109.out⟩
      have n2_ : Aside0 (((((((((((((w39.setCell ⟨gb124, 0, none⟩ (.int .i64 t110)).setCell ⟨gb124, 1, none⟩ (.int .i64 t111)).setCell ⟨gb124, 2, none⟩ (.int .i64 t112)).setCell ⟨gb124, 3, none⟩ (.int .i64 t113)).setCell ⟨gb124, 4, none⟩ (.int .i32 t114)).setCell ⟨gb124, 5, none⟩ (.int .i64 t115)).setCell ⟨gb124, 6, none⟩ (.int .i64 t116)).setCell ⟨gb124, 7, none⟩ (.bool t117)).setCell ⟨gb124, 8, none⟩ (.int .u32 t118)).setCell ⟨gb124, 9, none⟩ (.bool t119)).setCell ⟨gb124, 10, none⟩ (.int .i64 t120)).setCell ⟨gb124, 11, none⟩ (.slice Ao42 t121.length co42)).heap[gb124]? = some (.cells #[.int .i64 t110, .int .i64 t111, .int .i64 t112, .int .i64 t113, .int .i32 t114, .int .i64 t115, .int .i64 t116, .bool t117, .int .u32 t118, .bool t119, .int .i64 t120, .slice Ao42 t121.length co42] 116 (0, 0))) := ⟨by (with_reducible repeat (first | refine blk_drewN ?_ _ | refine blk_drew ?_ | refine blk_alloc ?_ _)); refine blk_put (cs := #[.int .i64 t110, .int .i64 t111, .int .i64 t112, .int .i64 t113, .int .i32 t114, .int .i64 t115, .int .i64 t116, .bool t117, .int .u32 t118, .bool t119, .int .i64 t120, .slice none 0 0]) ?_ 11 _ rfl; (with_reducible repeat (first | refine blk_drewN ?_ _ | refine blk_drew ?_ | refine blk_alloc ?_ _)); refine blk_put (cs := #[.int .i64 t110, .int .i64 t111, .int .i64 t112, .int .i64 t113, .int .i32 t114, .int .i64 t115, .int .i64 t116, .bool t117, .int .u32 t118, .bool t119, .int .i64 0, .slice none 0 0]) ?_ 10 _ rfl; (with_reducible repeat (first | refine blk_drewN ?_ _ | refine blk_drew ?_ | refine blk_alloc ?_ _)); refine blk_put (cs := #[.int .i64 t110, .int .i64 t111, .int .i64 t112, .int .i64 t113, .int .i32 t114, .int .i64 t115, .int .i64 t116, .bool t117, .int .u32 t118, .bool false, .int .i64 0, .slice none 0 0]) ?_ 9 _ rfl; (with_reducible repeat (first | refine blk_drewN ?_ _ | refine blk_drew ?_ | refine blk_alloc ?_ _)); refine blk_put (cs := #[.int .i64 t110, .int .i64 t111, .int .i64 t112, .int .i64 t113, .int .i32 t114, .int .i64 t115, .int .i64 t116, .bool t117, .int .u32 0, .bool false, .int .i64 0, .slice none 0 0]) ?_ 8 _ rfl; (with_reducible repeat (first | refine blk_drewN ?_ _ | refine blk_drew ?_ | refine blk_alloc ?_ _)); refine blk_put (cs := #[.int .i64 t110, .int .i64 t111, .int .i64 t112, .int .i64 t113, .int .i32 t114, .int .i64 t115, .int .i64 t116, .bool false, .int .u32 0, .bool false, .int .i64 0, .slice none 0 0]) ?_ 7 _ rfl; (with_reducible repeat (first | refine blk_drewN ?_ _ | refine blk_drew ?_ | refine blk_alloc ?_ _)); refine blk_put (cs := #[.int .i64 t110, .int .i64 t111, .int .i64 t112, .int .i64 t113, .int .i32 t114, .int .i64 t115, .int .i64 0, .bool false, .int .u32 0, .bool false, .int .i64 0, .slice none 0 0]) ?_ 6 _ rfl; (with_reducible repeat (first | refine blk_drewN ?_ _ | refine blk_drew ?_ | refine blk_alloc ?_ _)); refine blk_put (cs := #[.int .i64 t110, .int .i64 t111, .int .i64 t112, .int .i64 t113, .int .i32 t114, .int .i64 0, .int .i64 0, .bool false, .int .u32 0, .bool false, .int .i64 0, .slice none 0 0]) ?_ 5 _ rfl; (with_reducible repeat (first | refine blk_drewN ?_ _ | refine blk_drew ?_ | refine blk_alloc ?_ _)); refine blk_put (cs := #[.int .i64 t110, .int .i64 t111, .int .i64 t112, .int .i64 t113, .int .i32 0, .int .i64 0, .int .i64 0, .bool false, .int .u32 0, .bool false, .int .i64 0, .slice none 0 0]) ?_ 4 _ rfl; (with_reducible repeat (first | refine blk_drewN ?_ _ | refine blk_drew ?_ | refine blk_alloc ?_ _)); refine blk_put (cs := #[.int .i64 t110, .int .i64 t111, .int .i64 t112, .int .i64 0, .int .i32 0, .int .i64 0, .int .i64 0, .bool false, .int .u32 0, .bool false, .int .i64 0, .slice none 0 0]) ?_ 3 _ rfl; (with_reducible repeat (first | refine blk_drewN ?_ _ | refine blk_drew ?_ | refine blk_alloc ?_ _)); refine blk_put (cs := #[.int .i64 t110, .int .i64 t111, .int .i64 0, .int .i64 0, .int .i32 0, .int .i64 0, .int .i64 0, .bool false, .int .u32 0, .bool false, .int .i64 0, .slice none 0 0]) ?_ 2 _ rfl; (with_reducible repeat (first | refine blk_drewN ?_ _ | refine blk_drew ?_ | refine blk_alloc ?_ _)); refine blk_put (cs := #[.int .i64 t110, .int .i64 0, .int .i64 0, .int .i64 0, .int .i32 0, .int .i64 0, .int .i64 0, .bool false, .int .u32 0, .bool false, .int .i64 0, .slice none 0 0]) ?_ 1 _ rfl; (with_reducible repeat (first | refine blk_drewN ?_ _ | refine blk_drew ?_ | refine blk_alloc ?_ _)); refine blk_put (cs := #[.int .i64 0, .int .i64 0, .int .i64 0, .int .i64 0, .int .i32 0, .int .i64 0, .int .i64 0, .bool false, .int .u32 0, .bool false, .int .i64 0, .slice none 0 0]) ?_ 0 _ rfl; (with_reducible repeat (first | refine blk_drewN ?_ _ | refine blk_drew ?_ | refine blk_alloc ?_ _)); exact BK124.out⟩
      have n3_ : Aside0 (Below w.heap.size w ((((((((((((w39.setCell ⟨gb124, 0, none⟩ (.int .i64 t110)).setCell ⟨gb124, 1, none⟩ (.int .i64 t111)).setCell ⟨gb124, 2, none⟩ (.int .i64 t112)).setCell ⟨gb124, 3, none⟩ (.int .i64 t113)).setCell ⟨gb124, 4, none⟩ (.int .i32 t114)).setCell ⟨gb124, 5, none⟩ (.int .i64 t115)).setCell ⟨gb124, 6, none⟩ (.int .i64 t116)).setCell ⟨gb124, 7, none⟩ (.bool t117)).setCell ⟨gb124, 8, none⟩ (.int .u32 t118)).setCell ⟨gb124, 9, none⟩ (.bool t119)).setCell ⟨gb124, 10, none⟩ (.int .i64 t120)).setCell ⟨gb124, 11, none⟩ (.slice Ao42 t121.length co42))) := ⟨by repeat (first | (with_reducible first | exact HB.out | apply below_alloc | apply pw_below_drewN | apply below_drew1 | refine below_set ?_ GE109.out | refine below_set ?_ GE124.out) | exact HB.out)⟩
      (try clear HO123)
      (try clear BK109)
      (try clear BK124)
      (try clear HB)
      generalize ((((((((((((w39.setCell ⟨gb124, 0, none⟩ (.int .i64 t110)).setCell ⟨gb124, 1, none⟩ (.int .i64 t111)).setCell ⟨gb124, 2, none⟩ (.int .i64 t112)).setCell ⟨gb124, 3, none⟩ (.int .i64 t113)).setCell ⟨gb124, 4, none⟩ (.int .i32 t114)).setCell ⟨gb124, 5, none⟩ (.int .i64 t115)).setCell ⟨gb124, 6, none⟩ (.int .i64 t116)).setCell ⟨gb124, 7, none⟩ (.bool t117)).setCell ⟨gb124, 8, none⟩ (.int .u32 t118)).setCell ⟨gb124, 9, none⟩ (.bool t119)).setCell ⟨gb124, 10, none⟩ (.int .i64 t120)).setCell ⟨gb124, 11, none⟩ (.slice Ao42 t121.length co42)) = w43 at n0_ n1_ n2_ n3_ ⊢
      have HO123 := n0_
      have BK109 := n1_
      have BK124 := n2_
      have HB := n3_
      clear n0_ n1_ n2_ n3_
      have n0_ := Aside0.mk (Kd.R_drew HO123.out)
      have n1_ := Aside0.mk (blk_drew BK109.out)
      have n2_ := Aside0.mk (blk_drew BK124.out)
      have n3_ := Aside0.mk (below_drew1 HB.out)
      clear HO123
      clear BK109
      clear BK124
      clear HB
      have HO123 := n0_
      have BK109 := n1_
      have BK124 := n2_
      have HB := n3_
      clear n0_ n1_ n2_ n3_
      refine start_ (n := 5) (S := fun w' => w'.cell? ⟨gb124, 0, none⟩ = some (.int .i64 t110) ∧ w'.cell? ⟨gb124, 1, none⟩ = some (.int .i64 t111) ∧ w'.cell? ⟨gb124, 2, none⟩ = some (.int .i64 t112) ∧ w'.cell? ⟨gb124, 3, none⟩ = some (.int .i64 t113) ∧ w'.cell? ⟨gb124, 4, none⟩ = some (.int .i32 t114) ∧ w'.cell? ⟨gb124, 5, none⟩ = some (.int .i64 t115) ∧ w'.cell? ⟨gb124, 6, none⟩ = some (.int .i64 t116) ∧ w'.cell? ⟨gb124, 7, none⟩ = some (.bool t117) ∧ w'.cell? ⟨gb124, 8, none⟩ = some (.int .u32 t118) ∧ w'.cell? ⟨gb124, 9, none⟩ = some (.bool t119) ∧ w'.cell? ⟨gb124, 10, none⟩ = some (.int .i64 t120) ∧ w'.cell? ⟨gb124, 11, none⟩ = some (.slice Ao42 t121.length co42)) (ds := []) #[false, false, false, false, false] (by kernel_rfl) rfl rfl ⟨(blk_cell BK124.out 0).trans rfl, (blk_cell BK124.out 1).trans rfl, (blk_cell BK124.out 2).trans rfl, (blk_cell BK124.out 3).trans rfl, (blk_cell BK124.out 4).trans rfl, (blk_cell BK124.out 5).trans rfl, (blk_cell BK124.out 6).trans rfl, (blk_cell BK124.out 7).trans rfl, (blk_cell BK124.out 8).trans rfl, (blk_cell BK124.out 9).trans rfl, (blk_cell BK124.out 10).trans rfl, (blk_cell BK124.out 11).trans rfl⟩ (fun hHeld => ?_)
      generalize w43.drew = w44 at HO123 BK109 BK124 HB hHeld ⊢
      refine pure_ (i := 0) (N := some 15) (v := ?_) (a' := ?_) #[true, false, false, false, false] rfl rfl (by kernel_rfl) (fun _ _ _ h => h) (Or.inl ⟨by rfl, ?_⟩) ?_ ?_
      rotate_left
      · intro w'
        go_simp
        with_reducible rfl
      rotate_left
      · simp only [Act.put, List.setIfInBounds_toArray, List.set_cons_zero, List.set_cons_succ, i64_w, i32_w]
        rfl
      refine pure_ (i := 1) (N := some 16) (v := ?_) (a' := ?_) #[true, true, false, false, false] rfl rfl (by kernel_rfl) (fun _ _ _ h => h) (Or.inl ⟨by rfl, ?_⟩) ?_ ?_
      rotate_left
      · intro w'
        go_simp
        with_reducible rfl
      rotate_left
      · simp only [Act.put, List.setIfInBounds_toArray, List.set_cons_zero, List.set_cons_succ, i64_w, i32_w]
        rfl
      refine take_ (i := 2) (N := some 17) (v := ?_) (a' := ?_) #[true, true, true, false, false] rfl rfl (by kernel_rfl) (fun _ _ _ h => h) (Or.inl ⟨by rfl, ?_⟩) hHeld ?_ ?_
      rotate_left
      · rintro w' ⟨s0, s1, s2, s3, s4, s5, s6, s7, s8, s9, s10, s11⟩
        go_simp
        with_reducible rfl
      rotate_left
      · simp only [Act.put, List.setIfInBounds_toArray, List.set_cons_zero, List.set_cons_succ, i64_w, i32_w]
        rfl
      refine one_ (i := 3) (N := none) #[true, true, true, true, false] rfl rfl (by kernel_rfl) (by decide) (fun K hK => ?_)
      have hs45 : w44.cell? ⟨gb109, 0, none⟩ = some (.bool false) := (blk_cell BK109.out 0).trans rfl
      have hfs45 := blk_frozen BK109.out 0
      have hns45_1 := NB124_109.out
      have hms45_1 := NB109_124.out
      have hs46 : w44.cell? ⟨gb109, 1, none⟩ = some (.int .u32 0) := (blk_cell BK109.out 1).trans rfl
      have hfs46 := blk_frozen BK109.out 1
      have hns46_1 := NB124_109.out
      have hms46_1 := NB109_124.out
      have hs47 : w44.cell? ⟨gb109, 2, none⟩ = some (.bool false) := (blk_cell BK109.out 2).trans rfl
      have hfs47 := blk_frozen BK109.out 2
      have hns47_1 := NB124_109.out
      have hms47_1 := NB109_124.out
      have hs48 : w44.cell? ⟨gb109, 3, none⟩ = some (.int .i64 0) := (blk_cell BK109.out 3).trans rfl
      have hfs48 := blk_frozen BK109.out 3
      have hns48_1 := NB124_109.out
      have hms48_1 := NB109_124.out
      have hs49 : w44.cell? ⟨gb109, 4, none⟩ = some (.slice none 0 0) := (blk_cell BK109.out 4).trans rfl
      have hfs49 := blk_frozen BK109.out 4
      have hns49_1 := NB124_109.out
      have hms49_1 := NB109_124.out
      refine skip_ (w1 := ?_) (by rfl) rfl ?_ ?_
      rotate_left
      · go_simp
        rfl
      refine hK.out _ _ ⟨((cell_far (p := ⟨gb109, _, none⟩) NB124_109.out _).trans (((cell_far (p := ⟨gb109, _, none⟩) NB124_109.out _).trans (((cell_far (p := ⟨gb109, _, none⟩) NB124_109.out _).trans (((cell_far (p := ⟨gb109, _, none⟩) NB124_109.out _).trans (((cell_far (p := ⟨gb109, _, none⟩) NB124_109.out _).trans (hHeld.1)))))))))), ((cell_far (p := ⟨gb109, _, none⟩) NB124_109.out _).trans (((cell_far (p := ⟨gb109, _, none⟩) NB124_109.out _).trans (((cell_far (p := ⟨gb109, _, none⟩) NB124_109.out _).trans (((cell_far (p := ⟨gb109, _, none⟩) NB124_109.out _).trans (((cell_far (p := ⟨gb109, _, none⟩) NB124_109.out _).trans (hHeld.2.1)))))))))), ((cell_far (p := ⟨gb109, _, none⟩) NB124_109.out _).trans (((cell_far (p := ⟨gb109, _, none⟩) NB124_109.out _).trans (((cell_far (p := ⟨gb109, _, none⟩) NB124_109.out _).trans (((cell_far (p := ⟨gb109, _, none⟩) NB124_109.out _).trans (((cell_far (p := ⟨gb109, _, none⟩) NB124_109.out _).trans (hHeld.2.2.1)))))))))), ((cell_far (p := ⟨gb109, _, none⟩) NB124_109.out _).trans (((cell_far (p := ⟨gb109, _, none⟩) NB124_109.out _).trans (((cell_far (p := ⟨gb109, _, none⟩) NB124_109.out _).trans (((cell_far (p := ⟨gb109, _, none⟩) NB124_109.out _).trans (((cell_far (p := ⟨gb109, _, none⟩) NB124_109.out _).trans (hHeld.2.2.2.1)))))))))), ((cell_far (p := ⟨gb109, _, none⟩) NB124_109.out _).trans (((cell_far (p := ⟨gb109, _, none⟩) NB124_109.out _).trans (((cell_far (p := ⟨gb109, _, none⟩) NB124_109.out _).trans (((cell_far (p := ⟨gb109, _, none⟩) NB124_109.out _).trans (((cell_far (p := ⟨gb109, _, none⟩) NB124_109.out _).trans (hHeld.2.2.2.2.1)))))))))), ((cell_far (p := ⟨gb109, _, none⟩) NB124_109.out _).trans (((cell_far (p := ⟨gb109, _, none⟩) NB124_109.out _).trans (((cell_far (p := ⟨gb109, _, none⟩) NB124_109.out _).trans (((cell_far (p := ⟨gb109, _, none⟩) NB124_109.out _).trans (((cell_far (p := ⟨gb109, _, none⟩) NB124_109.out _).trans (hHeld.2.2.2.2.2.1)))))))))), ((cell_far (p := ⟨gb109, _, none⟩) NB124_109.out _).trans (((cell_far (p := ⟨gb109, _, none⟩) NB124_109.out _).trans (((cell_far (p := ⟨gb109, _, none⟩) NB124_109.out _).trans (((cell_far (p := ⟨gb109, _, none⟩) NB124_109.out _).trans (((cell_far (p := ⟨gb109, _, none⟩) NB124_109.out _).trans (hHeld.2.2.2.2.2.2.1)))))))))), ((cell_far (p := ⟨gb109, _, none⟩) NB124_109.out _).trans (((cell_far (p := ⟨gb109, _, none⟩) NB124_109.out _).trans (((cell_far (p := ⟨gb109, _, none⟩) NB124_109.out _).trans (((cell_far (p := ⟨gb109, _, none⟩) NB124_109.out _).trans (((cell_far (p := ⟨gb109, _, none⟩) NB124_109.out _).trans (hHeld.2.2.2.2.2.2.2.1)))))))))), ((cell_far (p := ⟨gb109, _, none⟩) NB124_109.out _).trans (((cell_far (p := ⟨gb109, _, none⟩) NB124_109.out _).trans (((cell_far (p := ⟨gb109, _, none⟩) NB124_109.out _).trans (((cell_far (p := ⟨gb109, _, none⟩) NB124_109.out _).trans (((cell_far (p := ⟨gb109, _, none⟩) NB124_109.out _).trans (hHeld.2.2.2.2.2.2.2.2.1)))))))))), ((cell_far (p := ⟨gb109, _, none⟩) NB124_109.out _).trans (((cell_far (p := ⟨gb109, _, none⟩) NB124_109.out _).trans (((cell_far (p := ⟨gb109, _, none⟩) NB124_109.out _).trans (((cell_far (p := ⟨gb109, _, none⟩) NB124_109.out _).trans (((cell_far (p := ⟨gb109, _, none⟩) NB124_109.out _).trans (hHeld.2.2.2.2.2.2.2.2.2.1)))))))))), ((cell_far (p := ⟨gb109, _, none⟩) NB124_109.out _).trans (((cell_far (p := ⟨gb109, _, none⟩) NB124_109.out _).trans (((cell_far (p := ⟨gb109, _, none⟩) NB124_109.out _).trans (((cell_far (p := ⟨gb109, _, none⟩) NB124_109.out _).trans (((cell_far (p := ⟨gb109, _, none⟩) NB124_109.out _).trans (hHeld.2.2.2.2.2.2.2.2.2.2.1)))))))))), ((cell_far (p := ⟨gb109, _, none⟩) NB124_109.out _).trans (((cell_far (p := ⟨gb109, _, none⟩) NB124_109.out _).trans (((cell_far (p := ⟨gb109, _, none⟩) NB124_109.out _).trans (((cell_far (p := ⟨gb109, _, none⟩) NB124_109.out _).trans (((cell_far (p := ⟨gb109, _, none⟩) NB124_109.out _).trans (hHeld.2.2.2.2.2.2.2.2.2.2.2))))))))))⟩ (fun hHeld => ?_)
      clear hK K
      refine pure_ (i := 4) (N := some 3) (v := ?_) (a' := ?_) #[true, true, true, true, true] rfl rfl (by kernel_rfl) (fun _ _ _ h => h) (Or.inl ⟨by rfl, ?_⟩) ?_ ?_
      rotate_left
      · intro w'
        go_simp
        with_reducible rfl
      rotate_left
      · simp only [Act.put, List.setIfInBounds_toArray, List.set_cons_zero, List.set_cons_succ, i64_w, i32_w]
        rfl
      refine done_ (by kernel_rfl) ?_
      try go_wp2
      refine bodyPost_ret (results_ct rfl _ _ gb109 25 #[.bool false, .int .u32 0, .bool false, .int .i64 0, .slice none 0 0] (0, 0) _ rfl (by (with_reducible repeat (first | refine blk_drewN ?_ _ | refine blk_drew ?_ | refine blk_alloc ?_ _)); refine blk_put (cs := #[.bool false, .int .u32 0, .bool false, .int .i64 0, .slice none 0 0]) ?_ 4 _ rfl; (with_reducible repeat (first | refine blk_drewN ?_ _ | refine blk_drew ?_ | refine blk_alloc ?_ _)); refine blk_put (cs := #[.bool false, .int .u32 0, .bool false, .int .i64 0, .slice none 0 0]) ?_ 3 _ rfl; (with_reducible repeat (first | refine blk_drewN ?_ _ | refine blk_drew ?_ | refine blk_alloc ?_ _)); refine blk_put (cs := #[.bool false, .int .u32 0, .bool false, .int .i64 0, .slice none 0 0]) ?_ 2 _ rfl; (with_reducible repeat (first | refine blk_drewN ?_ _ | refine blk_drew ?_ | refine blk_alloc ?_ _)); refine blk_put (cs := #[.bool false, .int .u32 0, .bool false, .int .i64 0, .slice none 0 0]) ?_ 1 _ rfl; (with_reducible repeat (first | refine blk_drewN ?_ _ | refine blk_drew ?_ | refine blk_alloc ?_ _)); refine blk_put (cs := #[.bool false, .int .u32 0, .bool false, .int .i64 0, .slice none 0 0]) ?_ 0 _ rfl; (with_reducible repeat (first | refine blk_drewN ?_ _ | refine blk_drew ?_ | refine blk_alloc ?_ _)); exact BK109.out) Try.underlying25 rfl (by kernel_rfl)) rfl ?_
      exact ⟨_, by first | rfl | (simp [errW_none, errW_some] <;> rfl) | (simp [*, errW_none, errW_some] <;> rfl), by first | exact Kd.R_nil _ _ _ _ _ | exact Kd.N_nil _ _ _ _ _ | exact Kd.V_nil _ _ _ _ _ | exact Kd.Q_nil _ _ _ _ _ | exact Kd.S_nil _ _ _ _ _, by repeat (first | (with_reducible first | exact HB.out | apply below_alloc | apply pw_below_drewN | apply below_drew1 | refine below_set ?_ GE109.out | refine below_set ?_ GE124.out) | exact HB.out)⟩
end Go.Proofs.Ytdoclpgciadjaaa.P

namespace Go.Proofs.Ytdoclpgciadjaaa.P
open Go.RowKit Go.Proofs.YtdoclpgciadjaaaW.PrintWords Go.Proofs.YtdoclpgciadjaaaW.PrintLast Go.Proofs.YtdoclpgciadjaaaW.PrintMore
set_option linter.unusedVariables false
set_option linter.unusedSimpArgs false
def laws_eqByteS.l0 : Nat → List Int → List Int → Int → Option (Bool)
  | 0, _, _, _ => none
  | k + 1, x0, x1, x5 => if x5 < (x0.length : Int) then (if 0 ≤ x5 then (if x5 < (x1.length : Int) then (if (rd x0 x5) = (rd x1 x5) then (laws_eqByteS.l0 k x0 x1 (wrap64 (x5 + 1))) else (some false)) else (none)) else (none)) else (some true)
def laws_eqByteS.f (k : Nat) (l0 : List Int) (l1 : List Int) : Option (Bool) := if (l0.length : Int) = (l1.length : Int) then (laws_eqByteS.l0 k l0 l1 0) else (some false)
theorem laws_eqByteS.mono_l : ∀ k, (∀ y0 y1 y2, LeO (laws_eqByteS.l0 k y0 y1 y2) (laws_eqByteS.l0 (k + 1) y0 y1 y2))
  | 0 => fun _ _ _ r h => by simp [laws_eqByteS.l0] at h
  | k + 1 => by
    have ih0 := laws_eqByteS.mono_l k
    · intro y0 y1 y2
      unfold laws_eqByteS.l0
      repeat' first
      | (with_reducible exact ih0 _ _ _)
      | (with_reducible exact LeO.refl _)
      | (with_reducible exact LeO.none _)
      | (with_reducible refine LeO.ite ?_ ?_)
      | (with_reducible refine LeO.bind ?_ (fun _ => ?_))
      | exact ih0 _ _ _
      | exact LeO.none _
      | refine LeO.ite ?_ ?_
      | refine LeO.bind ?_ (fun _ => ?_)
theorem laws_eqByteS.mono : ∀ a0 a1 k, LeO (laws_eqByteS.f k a0 a1) (laws_eqByteS.f (k + 1) a0 a1) := by
  intro a0 a1 k
  have ih0 := laws_eqByteS.mono_l k
  unfold laws_eqByteS.f
  repeat' first
      | (with_reducible exact ih0 _ _ _)
      | (with_reducible exact LeO.refl _)
      | (with_reducible exact LeO.none _)
      | (with_reducible refine LeO.ite ?_ ?_)
      | (with_reducible refine LeO.bind ?_ (fun _ => ?_))
      | exact ih0 _ _ _
      | exact LeO.none _
      | refine LeO.ite ?_ ?_
      | refine LeO.bind ?_ (fun _ => ?_)
set_option maxHeartbeats 8000000 in
set_option maxRecDepth 100000 in
theorem laws_eqByteS.calls (k : Nat) (A0 : Option Addr) (c0 : Nat) (l0 : List Int) (A1 : Option Addr) (c1 : Nat) (l1 : List Int) (r : Bool) (w : World) (hr0 : Kd.C (Kd.int .u8) w A0 l0.length l0) (hc0 : l0.length ≤ c0) (hr1 : Kd.C (Kd.int .u8) w A1 l1.length l1) (hc1 : l1.length ≤ c1) (h : laws_eqByteS.f k l0 l1 = some r) :
    Calls Try.prog 94 #[.slice A0 l0.length c0, .slice A1 l1.length c1] w fun e w' => e = .returned (.bool r) ∧ Drawn0 w w' := by
  have HR0 := Aside0.mk hr0
  have HC0 := Aside0.mk hc0
  clear hr0 hc0
  have HR1 := Aside0.mk hr1
  have HC1 := Aside0.mk hc1
  clear hr1 hc1
  have H : (if (l0.length : Int) = (l1.length : Int) then (laws_eqByteS.l0 k l0 l1 0) else (some false)) = some r := h
  clear h
  by_cases c3 : (l0.length : Int) = (l1.length : Int)
  · rw [if_pos c3] at H
    have c3b0 : ((l0.length : Int) == (l1.length : Int)) = true := beq_iff_eq.mpr c3
    have c3b1 : ((l0.length : Int) != (l1.length : Int)) = false := bne_eq_false_iff_eq.mpr c3
    have c3b2 : (l0.length == l1.length) = true := by first | simpa using c3 | (simp at c3 ⊢; omega)
    clear c3
    have H' := Aside0.mk H
    clear H
    go_enter Try.func94, Try.ntmps94
    go_wp2
    repeat (go_quiet (fail); try go_wp2)
    go_loopg [5] k (fun kq v5 w' => ∃ (x5_1 : Int), v5 = .int .i64 x5_1 ∧ Aside0 (laws_eqByteS.l0 kq l0 l1 x5_1 = some r) ∧ Aside0 (kq ≤ k) ∧ Drawn0 w w')
    case atStart => exact ⟨(0), (by first | rfl | (simp; done) | (simp [*]; done)), H', ⟨Nat.le_refl _⟩, by repeat (first | exact Drawn0.refl _ | apply Drawn0.step)⟩
    case round =>
      clear H'
      try clear c1
      try clear p2
      try clear c3
      try clear c3b0
      try clear c3b1
      try clear c3b2
      obtain ⟨x5_1, rfl, HA, HK1, ⟨m1, rfl⟩⟩ := hrel
      cases gk with
      | zero => exact absurd HA.out (by simp [laws_eqByteS.l0])
      | succ k1 =>
        have H := HA.out
        clear HA
        simp only [laws_eqByteS.l0] at H
        by_cases c4 : x5_1 < (l0.length : Int)
        · rw [if_pos c4] at H
          have c4b0 : decide (x5_1 < (l0.length : Int)) = true := decide_eq_true c4
          clear c4
          by_cases c5 : 0 ≤ x5_1
          · rw [if_pos c5] at H
            have c5b0 : decide (0 ≤ x5_1) = true := decide_eq_true c5
            clear c5
            by_cases c6 : x5_1 < (l1.length : Int)
            · rw [if_pos c6] at H
              have c6b0 : decide (x5_1 < (l1.length : Int)) = true := decide_eq_true c6
              clear c6
              by_cases c7 : (rd l0 x5_1) = (rd l1 x5_1)
              · rw [if_pos c7] at H
                have c7b0 : ((rd l0 x5_1) == (rd l1 x5_1)) = true := beq_iff_eq.mpr c7
                have c7b1 : ((rd l0 x5_1) != (rd l1 x5_1)) = false := bne_eq_false_iff_eq.mpr c7
                clear c7
                have H' := Aside0.mk H
                clear H
                have p139 : 0 ≤ (x5_1 : Int) := of_decide_eq_true (by first | (with_reducible assumption) | assumption)
                have q139 : x5_1 < (l0.length : Int) := of_decide_eq_true (by first | (with_reducible assumption) | assumption)
                obtain ⟨ad139, e139, hx139_0⟩ := Kd.at_int HR0.out x5_1 p139 q139
                cases e139
                replace p139 := eq_true p139
                replace q139 := eq_true q139
                have p140 : 0 ≤ (x5_1 : Int) := of_decide_eq_true (by first | (with_reducible assumption) | assumption)
                have q140 : x5_1 < (l1.length : Int) := of_decide_eq_true (by first | (with_reducible assumption) | assumption)
                obtain ⟨ad140, e140, hx140_0⟩ := Kd.at_int HR1.out x5_1 p140 q140
                cases e140
                replace p140 := eq_true p140
                replace q140 := eq_true q140
                go_wp2
                repeat (go_quiet (fail); try go_wp2)
                go_roundg k1
                case measure => have := HK1.out; omega
                case rel => exact ⟨(wrap64 (x5_1 + 1)), (by first | rfl | (simp; done) | (simp [*]; done)), H', ⟨by have := HK1.out; omega⟩, by repeat (first | exact Drawn0.refl _ | apply Drawn0.step)⟩
              · rw [if_neg c7] at H
                have c7b0 : ((rd l0 x5_1) == (rd l1 x5_1)) = false := beq_eq_false_iff_ne.mpr c7
                have c7b1 : ((rd l0 x5_1) != (rd l1 x5_1)) = true := bne_iff_ne.mpr c7
                obtain rfl := Option.some.inj H
                have p139 : 0 ≤ (x5_1 : Int) := of_decide_eq_true (by first | (with_reducible assumption) | assumption)
                have q139 : x5_1 < (l0.length : Int) := of_decide_eq_true (by first | (with_reducible assumption) | assumption)
                obtain ⟨ad139, e139, hx139_0⟩ := Kd.at_int HR0.out x5_1 p139 q139
                cases e139
                replace p139 := eq_true p139
                replace q139 := eq_true q139
                have p140 : 0 ≤ (x5_1 : Int) := of_decide_eq_true (by first | (with_reducible assumption) | assumption)
                have q140 : x5_1 < (l1.length : Int) := of_decide_eq_true (by first | (with_reducible assumption) | assumption)
                obtain ⟨ad140, e140, hx140_0⟩ := Kd.at_int HR1.out x5_1 p140 q140
                cases e140
                replace p140 := eq_true p140
                replace q140 := eq_true q140
                go_wp2
                repeat (go_quiet (fail); try go_wp2)
                go_ret
                exact ⟨by first | rfl | (simp; done) | (simp [*]; done), by repeat (first | exact Drawn0.refl _ | apply Drawn0.step)⟩
            · rw [if_neg c6] at H
              exact absurd H (by simp)
          · rw [if_neg c5] at H
            exact absurd H (by simp)
        · rw [if_neg c4] at H
          have c4b0 : decide (x5_1 < (l0.length : Int)) = false := decide_eq_false c4
          clear c4
          obtain rfl := Option.some.inj H
          go_wp2
          repeat (go_quiet (fail); try go_wp2)
          go_ret
          exact ⟨by first | rfl | (simp; done) | (simp [*]; done), by repeat (first | exact Drawn0.refl _ | apply Drawn0.step)⟩
  · rw [if_neg c3] at H
    have c3b0 : ((l0.length : Int) == (l1.length : Int)) = false := beq_eq_false_iff_ne.mpr c3
    have c3b1 : ((l0.length : Int) != (l1.length : Int)) = true := bne_iff_ne.mpr c3
    have c3b2 : (l0.length == l1.length) = false := by first | simpa using c3 | (simp at c3 ⊢; omega)
    obtain rfl := Option.some.inj H
    go_enter Try.func94, Try.ntmps94
    go_wp2
    repeat (go_quiet (fail); try go_wp2)
    go_ret
    exact ⟨by first | rfl | (simp; done) | (simp [*]; done), by repeat (first | exact Drawn0.refl _ | apply Drawn0.step)⟩
end Go.Proofs.Ytdoclpgciadjaaa.P
