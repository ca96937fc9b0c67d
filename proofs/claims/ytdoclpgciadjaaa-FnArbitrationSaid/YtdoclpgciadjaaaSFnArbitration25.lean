/- Texts of the proof of FnArbitration, joined. -/
import Derived.Test.YtdoclpgciadjaaaSFnArbitration21
import Derived.Test.YtdoclpgciadjaaaSFnArbitration24
namespace Go.Proofs.Ytdoclpgciadjaaa.P
open Go.RowKit Go.Proofs.YtdoclpgciadjaaaW.PrintWords Go.Proofs.YtdoclpgciadjaaaW.PrintLast Go.Proofs.YtdoclpgciadjaaaW.PrintMore
set_option linter.unusedVariables false
set_option linter.unusedSimpArgs false
mutual
def laws_wPair.j0 : Nat → List Int → Bool → Int → Bool → Int → List Int → Bool → Int → Bool → Int → List Int → Option (Bool × Int × Bool × Int × List Int × Bool × Int × Bool × Int × List Int)
  | 0, _, _, _, _, _, _, _, _, _, _, _ => none
  | k + 1, x1, x199000, x199001, x199002, x199003, x199004, x207000, x207001, x207002, x207003, x207004 => (spec_ValidFrame.f k x207000 x207001 x207002 x207003 x207004).bind fun t209 => (if t209 = true then (laws_wPair.j1 k x1 x199000 x199001 x199002 x199003 x199004 x207000 x207001 x207002 x207003 x207004) else ((laws_wByte.f x1 0).bind fun t210 => (laws_wPair.j1 k x1 x199000 x199001 x199002 x199003 x199004 true ((t210) % 4294967296) false 0 ([] : List Int))))
def laws_wPair.j1 : Nat → List Int → Bool → Int → Bool → Int → List Int → Bool → Int → Bool → Int → List Int → Option (Bool × Int × Bool × Int × List Int × Bool × Int × Bool × Int × List Int)
  | 0, _, _, _, _, _, _, _, _, _, _, _ => none
  | k + 1, x1, x199000, x199001, x199002, x199003, x199004, x207000, x207001, x207002, x207003, x207004 => (laws_wByte.f x1 0).bind fun t211 => (if (Int.tmod t211 4) = 0 then (some (x199000, x199001, x199002, x199003, x199004, x199000, x199001, !x199002, 0, ([] : List Int))) else (if (Int.tmod t211 4) = 1 then (if x199000 = true then (some (x199000, x199001, x199002, x199003, x199004, false, x199001 / 262144, x207002, 0, ([] : List Int))) else (some (x199000, x199001, x199002, x199003, x199004, true, (x199001 * 262144) % 4294967296, x207002, 0, ([] : List Int)))) else (if (Int.tmod t211 4) = 2 then ((laws_wByte.f x1 1).bind fun t212 => (if 0 ≤ (IntKind.u64.wrap (Int.tmod t212 11)) then (some (x199000, x199001, x199002, x199003, x199004, x199000, Go.bits .xor .u32 x199001 (shl .u32 1 (IntKind.u64.wrap (Int.tmod t212 11))), x199002, 0, ([] : List Int))) else (none))) else (some (x199000, x199001, x199002, x199003, x199004, x207000, x207001, x207002, x207003, x207004)))))
end
def laws_wPair.f (k : Nat) (l0 : List Int) (l1 : List Int) : Option (Bool × Int × Bool × Int × List Int × Bool × Int × Bool × Int × List Int) := (spec_DrawArb.f k l0).bind fun bt191 => ((spec_DrawArb.f k l1).bind fun bt199 => ((spec_ValidFrame.f k bt191.1 bt191.2.1 bt191.2.2.1 bt191.2.2.2.1 bt191.2.2.2.2).bind fun t207 => (if t207 = true then (laws_wPair.j0 k l1 bt191.1 bt191.2.1 bt191.2.2.1 bt191.2.2.2.1 bt191.2.2.2.2 bt199.1 bt199.2.1 bt199.2.2.1 bt199.2.2.2.1 bt199.2.2.2.2) else ((laws_wByte.f l0 0).bind fun t208 => (laws_wPair.j0 k l1 false ((t208) % 4294967296) false 0 ([] : List Int) bt199.1 bt199.2.1 bt199.2.2.1 bt199.2.2.2.1 bt199.2.2.2.2)))))
theorem laws_wPair.mono_l : ∀ k, (∀ y0 y1 y2 y3 y4 y5 y6 y7 y8 y9 y10, LeO (laws_wPair.j0 k y0 y1 y2 y3 y4 y5 y6 y7 y8 y9 y10) (laws_wPair.j0 (k + 1) y0 y1 y2 y3 y4 y5 y6 y7 y8 y9 y10)) ∧ (∀ y0 y1 y2 y3 y4 y5 y6 y7 y8 y9 y10, LeO (laws_wPair.j1 k y0 y1 y2 y3 y4 y5 y6 y7 y8 y9 y10) (laws_wPair.j1 (k + 1) y0 y1 y2 y3 y4 y5 y6 y7 y8 y9 y10))
  | 0 => ⟨fun _ _ _ _ _ _ _ _ _ _ _ r h => by simp [laws_wPair.j0] at h, fun _ _ _ _ _ _ _ _ _ _ _ r h => by simp [laws_wPair.j1] at h⟩
  | k + 1 => by
    obtain ⟨ih0, ih1⟩ := laws_wPair.mono_l k
    refine ⟨?_, ?_⟩
    · intro y0 y1 y2 y3 y4 y5 y6 y7 y8 y9 y10
      unfold laws_wPair.j0
      repeat' first
      | (with_reducible exact ih0 _ _ _ _ _ _ _ _ _ _ _)
      | (with_reducible exact ih1 _ _ _ _ _ _ _ _ _ _ _)
      | (with_reducible exact spec_DrawArb.mono _ _)
      | (with_reducible exact spec_ValidFrame.mono _ _ _ _ _ _)
      | (with_reducible exact LeO.refl _)
      | (with_reducible exact LeO.none _)
      | (with_reducible refine LeO.ite ?_ ?_)
      | (with_reducible refine LeO.bind ?_ (fun _ => ?_))
      | exact ih0 _ _ _ _ _ _ _ _ _ _ _
      | exact ih1 _ _ _ _ _ _ _ _ _ _ _
      | exact spec_DrawArb.mono _ _
      | exact spec_ValidFrame.mono _ _ _ _ _ _
      | exact LeO.none _
      | refine LeO.ite ?_ ?_
      | refine LeO.bind ?_ (fun _ => ?_)
    · intro y0 y1 y2 y3 y4 y5 y6 y7 y8 y9 y10
      unfold laws_wPair.j1
      repeat' first
      | (with_reducible exact ih0 _ _ _ _ _ _ _ _ _ _ _)
      | (with_reducible exact ih1 _ _ _ _ _ _ _ _ _ _ _)
      | (with_reducible exact spec_DrawArb.mono _ _)
      | (with_reducible exact spec_ValidFrame.mono _ _ _ _ _ _)
      | (with_reducible exact LeO.refl _)
      | (with_reducible exact LeO.none _)
      | (with_reducible refine LeO.ite ?_ ?_)
      | (with_reducible refine LeO.bind ?_ (fun _ => ?_))
      | exact ih0 _ _ _ _ _ _ _ _ _ _ _
      | exact ih1 _ _ _ _ _ _ _ _ _ _ _
      | exact spec_DrawArb.mono _ _
      | exact spec_ValidFrame.mono _ _ _ _ _ _
      | exact LeO.none _
      | refine LeO.ite ?_ ?_
      | refine LeO.bind ?_ (fun _ => ?_)
theorem laws_wPair.mono : ∀ a0 a1 k, LeO (laws_wPair.f k a0 a1) (laws_wPair.f (k + 1) a0 a1) := by
  intro a0 a1 k
  obtain ⟨ih0, ih1⟩ := laws_wPair.mono_l k
  unfold laws_wPair.f
  repeat' first
      | (with_reducible exact ih0 _ _ _ _ _ _ _ _ _ _ _)
      | (with_reducible exact ih1 _ _ _ _ _ _ _ _ _ _ _)
      | (with_reducible exact spec_DrawArb.mono _ _)
      | (with_reducible exact spec_ValidFrame.mono _ _ _ _ _ _)
      | (with_reducible exact LeO.refl _)
      | (with_reducible exact LeO.none _)
      | (with_reducible refine LeO.ite ?_ ?_)
      | (with_reducible refine LeO.bind ?_ (fun _ => ?_))
      | exact ih0 _ _ _ _ _ _ _ _ _ _ _
      | exact ih1 _ _ _ _ _ _ _ _ _ _ _
      | exact spec_DrawArb.mono _ _
      | exact spec_ValidFrame.mono _ _ _ _ _ _
      | exact LeO.none _
      | refine LeO.ite ?_ ?_
      | refine LeO.bind ?_ (fun _ => ?_)
def laws_wPair.T15 : Bool × List (List Nat × List Nat) := (true, [([], []), ([0], [0]), ([], []), ([2], [2]), ([], []), ([4], [4]), ([5], [5]), ([6], [6]), ([7], [7]), ([3, 8], [3, 8]), ([], []), ([10], [10]), ([1, 9, 11], [1, 9, 11]), ([12, 5, 0, 1, 2, 3, 4, 5, 6, 7, 8, 9, 10, 11, 12], [12])])
def laws_wPair.B15 : List Nat := [0, 1, 0, 4, 0, 16, 48, 112, 240, 508, 0, 1024, 4095, 8191]
theorem laws_wPair.tab15 : rtab .any (opsOf Try.f25 15) = laws_wPair.T15 := by kernel_rfl
theorem laws_wPair.bits15 : waitsOk laws_wPair.T15.2 laws_wPair.B15 = true := by kernel_rfl
set_option maxHeartbeats 8000000 in
set_option maxRecDepth 100000 in
theorem laws_wPair.calls (k : Nat) (A0 : Option Addr) (c0 : Nat) (l0 : List Int) (A1 : Option Addr) (c1 : Nat) (l1 : List Int) (r1 : Bool) (r2 : Int) (r3 : Bool) (r4 : Int) (r5 : List Int) (r6 : Bool) (r7 : Int) (r8 : Bool) (r9 : Int) (r10 : List Int) (w : World) (hr0 : Kd.C (Kd.int .u8) w A0 l0.length l0) (hc0 : l0.length ≤ c0) (hr1 : Kd.C (Kd.int .u8) w A1 l1.length l1) (hc1 : l1.length ≤ c1) (h : laws_wPair.f k l0 l1 = some (r1, r2, r3, r4, r5, r6, r7, r8, r9, r10)) :
    Calls Try.prog 25 #[.slice A0 l0.length c0, .slice A1 l1.length c1] w fun e w' => ∃ v4_ v9_ : Value, e = .returned (.tuple #[.agg #[.bool r1, .int .u32 r2, .bool r3, .int .i64 r4, v4_], .agg #[.bool r6, .int .u32 r7, .bool r8, .int .i64 r9, v9_]]) ∧ Kd.R (Kd.int .u8) 5 w' w.heap.size (fun k_ => some k_ ≠ (v9_ : Value).ownBlock) v4_ r5 ∧ Kd.R (Kd.int .u8) 5 w' w.heap.size (fun k_ => some k_ ≠ (v4_ : Value).ownBlock) v9_ r10 ∧ Below w.heap.size w w' := by
  have hu25 := Try.underlying25
  have HR0 := Aside0.mk hr0
  have HC0 := Aside0.mk hc0
  clear hr0 hc0
  have HR1 := Aside0.mk hr1
  have HC1 := Aside0.mk hc1
  clear hr1 hc1
  have HB := Aside0.mk (Below.refl w.heap.size w)
  have H : ((spec_DrawArb.f k l0).bind fun bt191 => ((spec_DrawArb.f k l1).bind fun bt199 => ((spec_ValidFrame.f k bt191.1 bt191.2.1 bt191.2.2.1 bt191.2.2.2.1 bt191.2.2.2.2).bind fun t207 => (if t207 = true then (laws_wPair.j0 k l1 bt191.1 bt191.2.1 bt191.2.2.1 bt191.2.2.2.1 bt191.2.2.2.2 bt199.1 bt199.2.1 bt199.2.2.1 bt199.2.2.2.1 bt199.2.2.2.2) else ((laws_wByte.f l0 0).bind fun t208 => (laws_wPair.j0 k l1 false ((t208) % 4294967296) false 0 ([] : List Int) bt199.1 bt199.2.1 bt199.2.2.1 bt199.2.2.2.1 bt199.2.2.2.2)))))) = some (r1, r2, r3, r4, r5, r6, r7, r8, r9, r10) := h
  clear h
  replace H := Option.bind_eq_some_iff.mp H
  obtain ⟨⟨t191, t192, t193, t194, t195⟩, A30, H⟩ := H
  replace H : ((spec_DrawArb.f k l1).bind fun bt199 => ((spec_ValidFrame.f k t191 t192 t193 t194 t195).bind fun t207 => (if t207 = true then (laws_wPair.j0 k l1 t191 t192 t193 t194 t195 bt199.1 bt199.2.1 bt199.2.2.1 bt199.2.2.2.1 bt199.2.2.2.2) else ((laws_wByte.f l0 0).bind fun t208 => (laws_wPair.j0 k l1 false ((t208) % 4294967296) false 0 ([] : List Int) bt199.1 bt199.2.1 bt199.2.2.1 bt199.2.2.2.1 bt199.2.2.2.2))))) = some (r1, r2, r3, r4, r5, r6, r7, r8, r9, r10) := H
  have A3 := Aside0.mk A30
  clear A30
  replace H := Option.bind_eq_some_iff.mp H
  obtain ⟨⟨t199, t200, t201, t202, t203⟩, A40, H⟩ := H
  replace H : ((spec_ValidFrame.f k t191 t192 t193 t194 t195).bind fun t207 => (if t207 = true then (laws_wPair.j0 k l1 t191 t192 t193 t194 t195 t199 t200 t201 t202 t203) else ((laws_wByte.f l0 0).bind fun t208 => (laws_wPair.j0 k l1 false ((t208) % 4294967296) false 0 ([] : List Int) t199 t200 t201 t202 t203)))) = some (r1, r2, r3, r4, r5, r6, r7, r8, r9, r10) := H
  have A4 := Aside0.mk A40
  clear A40
  replace H := Option.bind_eq_some_iff.mp H
  obtain ⟨t207, A50, H⟩ := H
  replace H : (if t207 = true then (laws_wPair.j0 k l1 t191 t192 t193 t194 t195 t199 t200 t201 t202 t203) else ((laws_wByte.f l0 0).bind fun t208 => (laws_wPair.j0 k l1 false ((t208) % 4294967296) false 0 ([] : List Int) t199 t200 t201 t202 t203))) = some (r1, r2, r3, r4, r5, r6, r7, r8, r9, r10) := H
  have A5 := Aside0.mk A50
  clear A50
  have HC6 := Aside0.mk H
  clear H
  go_enter Try.func25, Try.ntmps25
  go_upto_if 14 with (first | ((with_reducible refine gate_dst (N := 4) rfl ?_); refine box_event ?hg (N := 4) ?hd (cs := #[.bool false, .int .u32 0, .bool false, .int .i64 0, .slice none 0 0]) (t := 25) ?hr ?_; (case hd => rfl); (case hg => rfl); (case hr => first | (go_simp; done) | (go_simp; rfl)); intro gb189 hg w7 hbox hb; have n0_ := Aside0.mk (below_step (by repeat (first | (with_reducible first | exact HB.out | apply below_alloc | apply pw_below_drewN | apply below_drew1) | exact HB.out)) hb); have n1_ := Aside0.mk (hbox); have n2_ := Aside0.mk ((by rw [hg]; exact (below_size (by repeat (first | (with_reducible first | exact HB.out | apply below_alloc | apply pw_below_drewN | apply below_drew1) | exact HB.out))) : w.heap.size ≤ gb189)); have n3_ := Aside0.mk ((by rw [hg]; exact (below_size (by repeat (first | (with_reducible first | exact HB.out | apply below_alloc | apply pw_below_drewN | apply below_drew1) | exact HB.out))) : w.heap.size ≤ gb189)); clear HB; have HB := n0_; have BK189 := n1_; have GW189 := n2_; have GE189 := n3_; clear n0_ n1_ n2_ n3_; clear hb hbox hg) | ((with_reducible refine gate_dst (N := 5) rfl ?_); refine box_event ?hg (N := 5) ?hd (cs := #[.bool false, .int .u32 0, .bool false, .int .i64 0, .slice none 0 0]) (t := 25) ?hr ?_; (case hd => rfl); (case hg => rfl); (case hr => first | (go_simp; done) | (go_simp; rfl)); intro gb190 hg w8 hbox hb; have n0_ := Aside0.mk (blk_below (g := gb189) (o := .cells #[.bool false, .int .u32 0, .bool false, .int .i64 0, .slice none 0 0] 25 (0, 0)) (by (with_reducible repeat (first | refine blk_drewN ?_ _ | refine blk_drew ?_ | refine blk_alloc ?_ _)); exact BK189.out) hb); have n1_ := Aside0.mk (below_step (by repeat (first | (with_reducible first | exact HB.out | apply below_alloc | apply pw_below_drewN | apply below_drew1 | refine below_set ?_ GE189.out) | exact HB.out)) hb); have n2_ := Aside0.mk (hbox); have n3_ := Aside0.mk ((by rw [hg]; exact (below_size (by repeat (first | (with_reducible first | exact HB.out | apply below_alloc | apply pw_below_drewN | apply below_drew1 | refine below_set ?_ GE189.out) | exact HB.out))) : w.heap.size ≤ gb190)); have n4_ := Aside0.mk ((by rw [hg]; exact (below_size (by repeat (first | (with_reducible first | exact HB.out | apply below_alloc | apply pw_below_drewN | apply below_drew1 | refine below_set ?_ GE189.out) | exact HB.out))) : w.heap.size ≤ gb190)); have n5_ := Aside0.mk ((by rw [hg]; exact Nat.ne_of_lt (blk_lt (g := gb189) (o := .cells #[.bool false, .int .u32 0, .bool false, .int .i64 0, .slice none 0 0] 25 (0, 0)) (by (with_reducible repeat (first | refine blk_drewN ?_ _ | refine blk_drew ?_ | refine blk_alloc ?_ _)); exact BK189.out)) : gb189 ≠ gb190)); have n6_ := Aside0.mk ((by rw [hg]; exact Nat.ne_of_gt (blk_lt (g := gb189) (o := .cells #[.bool false, .int .u32 0, .bool false, .int .i64 0, .slice none 0 0] 25 (0, 0)) (by (with_reducible repeat (first | refine blk_drewN ?_ _ | refine blk_drew ?_ | refine blk_alloc ?_ _)); exact BK189.out)) : gb190 ≠ gb189)); clear BK189; clear HB; have BK189 := n0_; have HB := n1_; have BK190 := n2_; have GW190 := n3_; have GE190 := n4_; have NB189_190 := n5_; have NB190_189 := n6_; clear n0_ n1_ n2_ n3_ n4_ n5_ n6_; clear hb hbox hg) | ((with_reducible refine gate_callee (f := 85) rfl ?_); refine goesL_ (some 9) rfl rfl Try.func85 (by kernel_rfl) rfl #[.slice A0 l0.length c0] rfl (by (try simp only [List.map_toArray, List.map_cons, List.map_nil]); first | done | rfl | (simp only [List.length_drop, List.length_take]; rfl)) ?_; (with_reducible refine (spec_DrawArb.calls k _ _ l0 t191 t192 t193 t194 t195 _ ?side1 ?side2 A3.out).mono ?_); (case side1 => repeat (first | exact (Kd.C_below HR0.out HB.out) | (with_reducible refine Kd.C_alloc ?_ _) | (with_reducible refine Kd.C_drewN ?_ _) | (with_reducible refine Kd.C_drew ?_))); (case side2 => exact HC0.out); rintro e w9 ⟨v196, rfl, ho0, hb⟩; refine ⟨_, rfl, ?_⟩; have n0_ := Aside0.mk (Kd.R_lower ho0 (below_size (by repeat (first | (with_reducible first | exact HB.out | apply below_alloc | apply pw_below_drewN | apply below_drew1 | refine below_set ?_ GE189.out | refine below_set ?_ GE190.out) | exact HB.out)))); have n1_ := Aside0.mk (blk_below (g := gb189) (o := .cells #[.bool false, .int .u32 0, .bool false, .int .i64 0, .slice none 0 0] 25 (0, 0)) (by (with_reducible repeat (first | refine blk_drewN ?_ _ | refine blk_drew ?_ | refine blk_alloc ?_ _)); exact BK189.out) hb); have n2_ := Aside0.mk (blk_below (g := gb190) (o := .cells #[.bool false, .int .u32 0, .bool false, .int .i64 0, .slice none 0 0] 25 (0, 0)) (by (with_reducible repeat (first | refine blk_drewN ?_ _ | refine blk_drew ?_ | refine blk_alloc ?_ _)); exact BK190.out) hb); have n3_ := Aside0.mk (below_step (by repeat (first | (with_reducible first | exact HB.out | apply below_alloc | apply pw_below_drewN | apply below_drew1 | refine below_set ?_ GE189.out | refine below_set ?_ GE190.out) | exact HB.out)) hb); clear BK189; clear BK190; clear HB; have HO197 := n0_; have BK189 := n1_; have BK190 := n2_; have HB := n3_; clear n0_ n1_ n2_ n3_; (try clear hb); (try clear hb2); (try clear hk); (try clear hi); (try clear ho0)) | ((with_reducible refine gate_dst (N := 6) rfl ?_); refine box_event ?hg (N := 6) ?hd (cs := #[.bool false, .int .u32 0, .bool false, .int .i64 0, .slice none 0 0]) (t := 25) ?hr ?_; (case hd => rfl); (case hg => rfl); (case hr => first | (go_simp; done) | (go_simp; rfl)); intro gb198 hg w10 hbox hb; have n0_ := Aside0.mk (Kd.R_below (by (with_reducible repeat (first | apply Kd.R_alloc | apply Kd.R_drewN | apply Kd.R_drew)); exact HO197.out) hb); have n1_ := Aside0.mk (blk_below (g := gb189) (o := .cells #[.bool false, .int .u32 0, .bool false, .int .i64 0, .slice none 0 0] 25 (0, 0)) (by (with_reducible repeat (first | refine blk_drewN ?_ _ | refine blk_drew ?_ | refine blk_alloc ?_ _)); exact BK189.out) hb); have n2_ := Aside0.mk (blk_below (g := gb190) (o := .cells #[.bool false, .int .u32 0, .bool false, .int .i64 0, .slice none 0 0] 25 (0, 0)) (by (with_reducible repeat (first | refine blk_drewN ?_ _ | refine blk_drew ?_ | refine blk_alloc ?_ _)); exact BK190.out) hb); have n3_ := Aside0.mk (below_step (by repeat (first | (with_reducible first | exact HB.out | apply below_alloc | apply pw_below_drewN | apply below_drew1 | refine below_set ?_ GE189.out | refine below_set ?_ GE190.out) | exact HB.out)) hb); have n4_ := Aside0.mk (hbox); have n5_ := Aside0.mk ((by rw [hg]; exact (below_size (by repeat (first | (with_reducible first | exact HB.out | apply below_alloc | apply pw_below_drewN | apply below_drew1 | refine below_set ?_ GE189.out | refine below_set ?_ GE190.out) | exact HB.out))) : w.heap.size ≤ gb198)); have n6_ := Aside0.mk ((by rw [hg]; exact (below_size (by repeat (first | (with_reducible first | exact HB.out | apply below_alloc | apply pw_below_drewN | apply below_drew1 | refine below_set ?_ GE189.out | refine below_set ?_ GE190.out) | exact HB.out))) : w.heap.size ≤ gb198)); have n7_ := Aside0.mk ((by rw [hg]; exact Nat.ne_of_lt (blk_lt (g := gb189) (o := .cells #[.bool false, .int .u32 0, .bool false, .int .i64 0, .slice none 0 0] 25 (0, 0)) (by (with_reducible repeat (first | refine blk_drewN ?_ _ | refine blk_drew ?_ | refine blk_alloc ?_ _)); exact BK189.out)) : gb189 ≠ gb198)); have n8_ := Aside0.mk ((by rw [hg]; exact Nat.ne_of_gt (blk_lt (g := gb189) (o := .cells #[.bool false, .int .u32 0, .bool false, .int .i64 0, .slice none 0 0] 25 (0, 0)) (by (with_reducible repeat (first | refine blk_drewN ?_ _ | refine blk_drew ?_ | refine blk_alloc ?_ _)); exact BK189.out)) : gb198 ≠ gb189)); have n9_ := Aside0.mk ((by rw [hg]; exact Nat.ne_of_lt (blk_lt (g := gb190) (o := .cells #[.bool false, .int .u32 0, .bool false, .int .i64 0, .slice none 0 0] 25 (0, 0)) (by (with_reducible repeat (first | refine blk_drewN ?_ _ | refine blk_drew ?_ | refine blk_alloc ?_ _)); exact BK190.out)) : gb190 ≠ gb198)); have n10_ := Aside0.mk ((by rw [hg]; exact Nat.ne_of_gt (blk_lt (g := gb190) (o := .cells #[.bool false, .int .u32 0, .bool false, .int .i64 0, .slice none 0 0] 25 (0, 0)) (by (with_reducible repeat (first | refine blk_drewN ?_ _ | refine blk_drew ?_ | refine blk_alloc ?_ _)); exact BK190.out)) : gb198 ≠ gb190)); clear HO197; clear BK189; clear BK190; clear HB; have HO197 := n0_; have BK189 := n1_; have BK190 := n2_; have HB := n3_; have BK198 := n4_; have GW198 := n5_; have GE198 := n6_; have NB189_198 := n7_; have NB198_189 := n8_; have NB190_198 := n9_; have NB198_190 := n10_; clear n0_ n1_ n2_ n3_ n4_ n5_ n6_ n7_ n8_ n9_ n10_; clear hb hbox hg; have hnb11 := NB198_189.out; have hnc11 := NB189_198.out; have hnb12 := NB198_190.out; have hnc12 := NB190_198.out; have hcz13_0 : w10.cell? ⟨gb198, 0, none⟩ = some (.bool false) := (blk_cell BK198.out 0).trans rfl; have hcz13_1 : w10.cell? ⟨gb198, 1, none⟩ = some (.int .u32 0) := (blk_cell BK198.out 1).trans rfl; have hcz13_2 : w10.cell? ⟨gb198, 2, none⟩ = some (.bool false) := (blk_cell BK198.out 2).trans rfl; have hcz13_3 : w10.cell? ⟨gb198, 3, none⟩ = some (.int .i64 0) := (blk_cell BK198.out 3).trans rfl; have hcz13_4 : w10.cell? ⟨gb198, 4, none⟩ = some (.slice none 0 0) := (blk_cell BK198.out 4).trans rfl; have hfz13_0 := blk_frozen BK198.out 0; have hfz13_1 := blk_frozen BK198.out 1; have hfz13_2 := blk_frozen BK198.out 2; have hfz13_3 := blk_frozen BK198.out 3; have hfz13_4 := blk_frozen BK198.out 4; obtain ⟨Ao14, co14, eo14⟩ := Kd.R_slice HO197.out; subst eo14) | ((with_reducible refine gate_callee (f := 85) rfl ?_); refine goesL_ (some 11) rfl rfl Try.func85 (by kernel_rfl) rfl #[.slice A1 l1.length c1] rfl (by (try simp only [List.map_toArray, List.map_cons, List.map_nil]); first | done | rfl | (simp only [List.length_drop, List.length_take]; rfl)) ?_; (with_reducible refine (spec_DrawArb.calls k _ _ l1 t199 t200 t201 t202 t203 _ ?side1 ?side2 A4.out).mono ?_); (case side1 => exact Kd.C_below HR1.out (by repeat (first | (with_reducible first | exact HB.out | apply below_alloc | apply pw_below_drewN | apply below_drew1 | refine below_set ?_ GE189.out | refine below_set ?_ GE190.out | refine below_set ?_ GE198.out) | exact HB.out))); (case side2 => exact HC1.out); rintro e w15 ⟨v204, rfl, ho0, hb⟩; refine ⟨_, rfl, ?_⟩; have n0_ := Aside0.mk (Kd.R_elder' (by (with_reducible repeat (first | apply Kd.R_alloc | apply Kd.R_drewN | apply Kd.R_drew)); exact (Kd.R_mono (Kd.R_far (p := ⟨gb198, 4, none⟩) (Kd.R_far (p := ⟨gb198, 3, none⟩) (Kd.R_far (p := ⟨gb198, 2, none⟩) (Kd.R_far (p := ⟨gb198, 1, none⟩) (Kd.R_far (p := ⟨gb198, 0, none⟩) (Kd.R_types HO197.out BK198.out (by decide)) (fun _ hk => hk.2) (.bool t191)) (fun _ hk => hk.2) (.int .u32 t192)) (fun _ hk => hk.2) (.bool t193)) (fun _ hk => hk.2) (.int .i64 t194)) (fun _ hk => hk.2) (.slice Ao14 t195.length co14)) (fun _ h_ => h_.1))) (Kd.R_base ho0) hb); have n1_ := Aside0.mk (Kd.R_lower (Kd.R_new' ho0 (Kd.R_lt (by (with_reducible repeat (first | apply Kd.R_alloc | apply Kd.R_drewN | apply Kd.R_drew)); exact (Kd.R_mono (Kd.R_far (p := ⟨gb198, 4, none⟩) (Kd.R_far (p := ⟨gb198, 3, none⟩) (Kd.R_far (p := ⟨gb198, 2, none⟩) (Kd.R_far (p := ⟨gb198, 1, none⟩) (Kd.R_far (p := ⟨gb198, 0, none⟩) (Kd.R_types HO197.out BK198.out (by decide)) (fun _ hk => hk.2) (.bool t191)) (fun _ hk => hk.2) (.int .u32 t192)) (fun _ hk => hk.2) (.bool t193)) (fun _ hk => hk.2) (.int .i64 t194)) (fun _ hk => hk.2) (.slice Ao14 t195.length co14)) (fun _ h_ => h_.1))))) (below_size (by repeat (first | (with_reducible first | exact HB.out | apply below_alloc | apply pw_below_drewN | apply below_drew1 | refine below_set ?_ GE189.out | refine below_set ?_ GE190.out | refine below_set ?_ GE198.out) | exact HB.out)))); have n2_ := Aside0.mk (blk_below (g := gb189) (o := .cells #[.bool false, .int .u32 0, .bool false, .int .i64 0, .slice none 0 0] 25 (0, 0)) (by (with_reducible repeat (first | refine blk_drewN ?_ _ | refine blk_drew ?_ | refine blk_alloc ?_ _)); refine blk_far ?_ NB189_198.out _; (with_reducible repeat (first | refine blk_drewN ?_ _ | refine blk_drew ?_ | refine blk_alloc ?_ _)); refine blk_far ?_ NB189_198.out _; (with_reducible repeat (first | refine blk_drewN ?_ _ | refine blk_drew ?_ | refine blk_alloc ?_ _)); refine blk_far ?_ NB189_198.out _; (with_reducible repeat (first | refine blk_drewN ?_ _ | refine blk_drew ?_ | refine blk_alloc ?_ _)); refine blk_far ?_ NB189_198.out _; (with_reducible repeat (first | refine blk_drewN ?_ _ | refine blk_drew ?_ | refine blk_alloc ?_ _)); refine blk_far ?_ NB189_198.out _; (with_reducible repeat (first | refine blk_drewN ?_ _ | refine blk_drew ?_ | refine blk_alloc ?_ _)); exact BK189.out) hb); have n3_ := Aside0.mk (blk_below (g := gb190) (o := .cells #[.bool false, .int .u32 0, .bool false, .int .i64 0, .slice none 0 0] 25 (0, 0)) (by (with_reducible repeat (first | refine blk_drewN ?_ _ | refine blk_drew ?_ | refine blk_alloc ?_ _)); refine blk_far ?_ NB190_198.out _; (with_reducible repeat (first | refine blk_drewN ?_ _ | refine blk_drew ?_ | refine blk_alloc ?_ _)); refine blk_far ?_ NB190_198.out _; (with_reducible repeat (first | refine blk_drewN ?_ _ | refine blk_drew ?_ | refine blk_alloc ?_ _)); refine blk_far ?_ NB190_198.out _; (with_reducible repeat (first | refine blk_drewN ?_ _ | refine blk_drew ?_ | refine blk_alloc ?_ _)); refine blk_far ?_ NB190_198.out _; (with_reducible repeat (first | refine blk_drewN ?_ _ | refine blk_drew ?_ | refine blk_alloc ?_ _)); refine blk_far ?_ NB190_198.out _; (with_reducible repeat (first | refine blk_drewN ?_ _ | refine blk_drew ?_ | refine blk_alloc ?_ _)); exact BK190.out) hb); have n4_ := Aside0.mk (blk_below (g := gb198) (o := .cells #[.bool t191, .int .u32 t192, .bool t193, .int .i64 t194, .slice Ao14 t195.length co14] 25 (0, 0)) (by (with_reducible repeat (first | refine blk_drewN ?_ _ | refine blk_drew ?_ | refine blk_alloc ?_ _)); refine blk_put (cs := #[.bool t191, .int .u32 t192, .bool t193, .int .i64 t194, .slice none 0 0]) ?_ 4 _ rfl; (with_reducible repeat (first | refine blk_drewN ?_ _ | refine blk_drew ?_ | refine blk_alloc ?_ _)); refine blk_put (cs := #[.bool t191, .int .u32 t192, .bool t193, .int .i64 0, .slice none 0 0]) ?_ 3 _ rfl; (with_reducible repeat (first | refine blk_drewN ?_ _ | refine blk_drew ?_ | refine blk_alloc ?_ _)); refine blk_put (cs := #[.bool t191, .int .u32 t192, .bool false, .int .i64 0, .slice none 0 0]) ?_ 2 _ rfl; (with_reducible repeat (first | refine blk_drewN ?_ _ | refine blk_drew ?_ | refine blk_alloc ?_ _)); refine blk_put (cs := #[.bool t191, .int .u32 0, .bool false, .int .i64 0, .slice none 0 0]) ?_ 1 _ rfl; (with_reducible repeat (first | refine blk_drewN ?_ _ | refine blk_drew ?_ | refine blk_alloc ?_ _)); refine blk_put (cs := #[.bool false, .int .u32 0, .bool false, .int .i64 0, .slice none 0 0]) ?_ 0 _ rfl; (with_reducible repeat (first | refine blk_drewN ?_ _ | refine blk_drew ?_ | refine blk_alloc ?_ _)); exact BK198.out) hb); have n5_ := Aside0.mk (below_step (by repeat (first | (with_reducible first | exact HB.out | apply below_alloc | apply pw_below_drewN | apply below_drew1 | refine below_set ?_ GE189.out | refine below_set ?_ GE190.out | refine below_set ?_ GE198.out) | exact HB.out)) hb); clear HO197; clear BK189; clear BK190; clear BK198; clear HB; have HO197 := n0_; have HO205 := n1_; have BK189 := n2_; have BK190 := n3_; have BK198 := n4_; have HB := n5_; clear n0_ n1_ n2_ n3_ n4_ n5_; (try clear hb); (try clear hb2); (try clear hk); (try clear hi); (try clear ho0)) | ((with_reducible refine gate_dst (N := 7) rfl ?_); refine box_event ?hg (N := 7) ?hd (cs := #[.bool false, .int .u32 0, .bool false, .int .i64 0, .slice none 0 0]) (t := 25) ?hr ?_; (case hd => rfl); (case hg => rfl); (case hr => first | (go_simp; done) | (go_simp; rfl)); intro gb206 hg w16 hbox hb; have n0_ := Aside0.mk (Kd.R_below (by (with_reducible repeat (first | apply Kd.R_alloc | apply Kd.R_drewN | apply Kd.R_drew)); exact HO197.out) hb); have n1_ := Aside0.mk (Kd.R_below (by (with_reducible repeat (first | apply Kd.R_alloc | apply Kd.R_drewN | apply Kd.R_drew)); exact HO205.out) hb); have n2_ := Aside0.mk (blk_below (g := gb189) (o := .cells #[.bool false, .int .u32 0, .bool false, .int .i64 0, .slice none 0 0] 25 (0, 0)) (by (with_reducible repeat (first | refine blk_drewN ?_ _ | refine blk_drew ?_ | refine blk_alloc ?_ _)); exact BK189.out) hb); have n3_ := Aside0.mk (blk_below (g := gb190) (o := .cells #[.bool false, .int .u32 0, .bool false, .int .i64 0, .slice none 0 0] 25 (0, 0)) (by (with_reducible repeat (first | refine blk_drewN ?_ _ | refine blk_drew ?_ | refine blk_alloc ?_ _)); exact BK190.out) hb); have n4_ := Aside0.mk (blk_below (g := gb198) (o := .cells #[.bool t191, .int .u32 t192, .bool t193, .int .i64 t194, .slice Ao14 t195.length co14] 25 (0, 0)) (by (with_reducible repeat (first | refine blk_drewN ?_ _ | refine blk_drew ?_ | refine blk_alloc ?_ _)); exact BK198.out) hb); have n5_ := Aside0.mk (below_step (by repeat (first | (with_reducible first | exact HB.out | apply below_alloc | apply pw_below_drewN | apply below_drew1 | refine below_set ?_ GE189.out | refine below_set ?_ GE190.out | refine below_set ?_ GE198.out) | exact HB.out)) hb); have n6_ := Aside0.mk (hbox); have n7_ := Aside0.mk ((by rw [hg]; exact (below_size (by repeat (first | (with_reducible first | exact HB.out | apply below_alloc | apply pw_below_drewN | apply below_drew1 | refine below_set ?_ GE189.out | refine below_set ?_ GE190.out | refine below_set ?_ GE198.out) | exact HB.out))) : w.heap.size ≤ gb206)); have n8_ := Aside0.mk ((by rw [hg]; exact (below_size (by repeat (first | (with_reducible first | exact HB.out | apply below_alloc | apply pw_below_drewN | apply below_drew1 | refine below_set ?_ GE189.out | refine below_set ?_ GE190.out | refine below_set ?_ GE198.out) | exact HB.out))) : w.heap.size ≤ gb206)); have n9_ := Aside0.mk ((by rw [hg]; exact Nat.ne_of_lt (blk_lt (g := gb189) (o := .cells #[.bool false, .int .u32 0, .bool false, .int .i64 0, .slice none 0 0] 25 (0, 0)) (by (with_reducible repeat (first | refine blk_drewN ?_ _ | refine blk_drew ?_ | refine blk_alloc ?_ _)); exact BK189.out)) : gb189 ≠ gb206)); have n10_ := Aside0.mk ((by rw [hg]; exact Nat.ne_of_gt (blk_lt (g := gb189) (o := .cells #[.bool false, .int .u32 0, .bool false, .int .i64 0, .slice none 0 0] 25 (0, 0)) (by (with_reducible repeat (first | refine blk_drewN ?_ _ | refine blk_drew ?_ | refine blk_alloc ?_ _)); exact BK189.out)) : gb206 ≠ gb189)); have n11_ := Aside0.mk ((by rw [hg]; exact Nat.ne_of_lt (blk_lt (g := gb190) (o := .cells #[.bool false, .int .u32 0, .bool false, .int .i64 0, .slice none 0 0] 25 (0, 0)) (by (with_reducible repeat (first | refine blk_drewN ?_ _ | refine blk_drew ?_ | refine blk_alloc ?_ _)); exact BK190.out)) : gb190 ≠ gb206)); have n12_ := Aside0.mk ((by rw [hg]; exact Nat.ne_of_gt (blk_lt (g := gb190) (o := .cells #[.bool false, .int .u32 0, .bool false, .int .i64 0, .slice none 0 0] 25 (0, 0)) (by (with_reducible repeat (first | refine blk_drewN ?_ _ | refine blk_drew ?_ | refine blk_alloc ?_ _)); exact BK190.out)) : gb206 ≠ gb190)); have n13_ := Aside0.mk ((by rw [hg]; exact Nat.ne_of_lt (blk_lt (g := gb198) (o := .cells #[.bool t191, .int .u32 t192, .bool t193, .int .i64 t194, .slice Ao14 t195.length co14] 25 (0, 0)) (by (with_reducible repeat (first | refine blk_drewN ?_ _ | refine blk_drew ?_ | refine blk_alloc ?_ _)); exact BK198.out)) : gb198 ≠ gb206)); have n14_ := Aside0.mk ((by rw [hg]; exact Nat.ne_of_gt (blk_lt (g := gb198) (o := .cells #[.bool t191, .int .u32 t192, .bool t193, .int .i64 t194, .slice Ao14 t195.length co14] 25 (0, 0)) (by (with_reducible repeat (first | refine blk_drewN ?_ _ | refine blk_drew ?_ | refine blk_alloc ?_ _)); exact BK198.out)) : gb206 ≠ gb198)); clear HO197; clear HO205; clear BK189; clear BK190; clear BK198; clear HB; have HO197 := n0_; have HO205 := n1_; have BK189 := n2_; have BK190 := n3_; have BK198 := n4_; have HB := n5_; have BK206 := n6_; have GW206 := n7_; have GE206 := n8_; have NB189_206 := n9_; have NB206_189 := n10_; have NB190_206 := n11_; have NB206_190 := n12_; have NB198_206 := n13_; have NB206_198 := n14_; clear n0_ n1_ n2_ n3_ n4_ n5_ n6_ n7_ n8_ n9_ n10_ n11_ n12_ n13_ n14_; clear hb hbox hg; have hnb17 := NB206_189.out; have hnc17 := NB189_206.out; have hnb18 := NB206_190.out; have hnc18 := NB190_206.out; have hnb19 := NB206_198.out; have hnc19 := NB198_206.out; have hcz20_0 : w16.cell? ⟨gb206, 0, none⟩ = some (.bool false) := (blk_cell BK206.out 0).trans rfl; have hcz20_1 : w16.cell? ⟨gb206, 1, none⟩ = some (.int .u32 0) := (blk_cell BK206.out 1).trans rfl; have hcz20_2 : w16.cell? ⟨gb206, 2, none⟩ = some (.bool false) := (blk_cell BK206.out 2).trans rfl; have hcz20_3 : w16.cell? ⟨gb206, 3, none⟩ = some (.int .i64 0) := (blk_cell BK206.out 3).trans rfl; have hcz20_4 : w16.cell? ⟨gb206, 4, none⟩ = some (.slice none 0 0) := (blk_cell BK206.out 4).trans rfl; have hfz20_0 := blk_frozen BK206.out 0; have hfz20_1 := blk_frozen BK206.out 1; have hfz20_2 := blk_frozen BK206.out 2; have hfz20_3 := blk_frozen BK206.out 3; have hfz20_4 := blk_frozen BK206.out 4; obtain ⟨Ao21, co21, eo21⟩ := Kd.R_slice HO205.out; subst eo21; have hcz22_0 : w16.cell? ⟨gb198, 0, none⟩ = some (.bool t191) := (blk_cell BK198.out 0).trans rfl; have hcz22_1 : w16.cell? ⟨gb198, 1, none⟩ = some (.int .u32 t192) := (blk_cell BK198.out 1).trans rfl; have hcz22_2 : w16.cell? ⟨gb198, 2, none⟩ = some (.bool t193) := (blk_cell BK198.out 2).trans rfl; have hcz22_3 : w16.cell? ⟨gb198, 3, none⟩ = some (.int .i64 t194) := (blk_cell BK198.out 3).trans rfl; have hcz22_4 : w16.cell? ⟨gb198, 4, none⟩ = some (.slice Ao14 t195.length co14) := (blk_cell BK198.out 4).trans rfl; have hfz22_0 := blk_frozen BK198.out 0; have hfz22_1 := blk_frozen BK198.out 1; have hfz22_2 := blk_frozen BK198.out 2; have hfz22_3 := blk_frozen BK198.out 3; have hfz22_4 := blk_frozen BK198.out 4) | ((with_reducible refine gate_callee (f := 14) rfl ?_); refine goesL_ (some 13) rfl rfl Try.func14 (by kernel_rfl) rfl #[.agg #[.bool t191, .int .u32 t192, .bool t193, .int .i64 t194, .slice Ao14 t195.length co14]] rfl (by (try simp only [List.map_toArray, List.map_cons, List.map_nil]); first | done | rfl | (simp only [List.length_drop, List.length_take]; rfl)) ?_; (with_reducible refine (spec_ValidFrame.calls k t191 t192 t193 t194 _ _ t195 t207 _ ?side1 ?side2 A5.out).mono ?_); (case side1 => refine (Kd.R_reads' (e := 5) (base := w.heap.size) (ok := fun k_ => (True ∧ some k_ ≠ (.slice Ao21 t203.length co21 : Value).ownBlock)) (n := t195.length) (c := co14) ?_).2.2; exact (by (with_reducible repeat (first | apply Kd.R_alloc | apply Kd.R_drewN | apply Kd.R_drew)); exact (Kd.R_mono (Kd.R_far (p := ⟨gb206, 4, none⟩) (Kd.R_far (p := ⟨gb206, 3, none⟩) (Kd.R_far (p := ⟨gb206, 2, none⟩) (Kd.R_far (p := ⟨gb206, 1, none⟩) (Kd.R_far (p := ⟨gb206, 0, none⟩) (Kd.R_types HO197.out BK206.out (by decide)) (fun _ hk => hk.2) (.bool t199)) (fun _ hk => hk.2) (.int .u32 t200)) (fun _ hk => hk.2) (.bool t201)) (fun _ hk => hk.2) (.int .i64 t202)) (fun _ hk => hk.2) (.slice Ao21 t203.length co21)) (fun _ h_ => h_.1)))); (case side2 => exact (Kd.R_reads' HO197.out).2.1); rintro e w23 ⟨rfl, hb⟩; refine ⟨_, rfl, ?_⟩; have n0_ := Aside0.mk (Kd.R_below (by (with_reducible repeat (first | apply Kd.R_alloc | apply Kd.R_drewN | apply Kd.R_drew)); exact (Kd.R_mono (Kd.R_far (p := ⟨gb206, 4, none⟩) (Kd.R_far (p := ⟨gb206, 3, none⟩) (Kd.R_far (p := ⟨gb206, 2, none⟩) (Kd.R_far (p := ⟨gb206, 1, none⟩) (Kd.R_far (p := ⟨gb206, 0, none⟩) (Kd.R_types HO197.out BK206.out (by decide)) (fun _ hk => hk.2) (.bool t199)) (fun _ hk => hk.2) (.int .u32 t200)) (fun _ hk => hk.2) (.bool t201)) (fun _ hk => hk.2) (.int .i64 t202)) (fun _ hk => hk.2) (.slice Ao21 t203.length co21)) (fun _ h_ => h_.1))) hb); have n1_ := Aside0.mk (Kd.R_below (by (with_reducible repeat (first | apply Kd.R_alloc | apply Kd.R_drewN | apply Kd.R_drew)); exact (Kd.R_mono (Kd.R_far (p := ⟨gb206, 4, none⟩) (Kd.R_far (p := ⟨gb206, 3, none⟩) (Kd.R_far (p := ⟨gb206, 2, none⟩) (Kd.R_far (p := ⟨gb206, 1, none⟩) (Kd.R_far (p := ⟨gb206, 0, none⟩) (Kd.R_types HO205.out BK206.out (by decide)) (fun _ hk => hk.2) (.bool t199)) (fun _ hk => hk.2) (.int .u32 t200)) (fun _ hk => hk.2) (.bool t201)) (fun _ hk => hk.2) (.int .i64 t202)) (fun _ hk => hk.2) (.slice Ao21 t203.length co21)) (fun _ h_ => h_.1))) hb); have n2_ := Aside0.mk (blk_below (g := gb189) (o := .cells #[.bool false, .int .u32 0, .bool false, .int .i64 0, .slice none 0 0] 25 (0, 0)) (by (with_reducible repeat (first | refine blk_drewN ?_ _ | refine blk_drew ?_ | refine blk_alloc ?_ _)); refine blk_far ?_ NB189_206.out _; (with_reducible repeat (first | refine blk_drewN ?_ _ | refine blk_drew ?_ | refine blk_alloc ?_ _)); refine blk_far ?_ NB189_206.out _; (with_reducible repeat (first | refine blk_drewN ?_ _ | refine blk_drew ?_ | refine blk_alloc ?_ _)); refine blk_far ?_ NB189_206.out _; (with_reducible repeat (first | refine blk_drewN ?_ _ | refine blk_drew ?_ | refine blk_alloc ?_ _)); refine blk_far ?_ NB189_206.out _; (with_reducible repeat (first | refine blk_drewN ?_ _ | refine blk_drew ?_ | refine blk_alloc ?_ _)); refine blk_far ?_ NB189_206.out _; (with_reducible repeat (first | refine blk_drewN ?_ _ | refine blk_drew ?_ | refine blk_alloc ?_ _)); exact BK189.out) hb); have n3_ := Aside0.mk (blk_below (g := gb190) (o := .cells #[.bool false, .int .u32 0, .bool false, .int .i64 0, .slice none 0 0] 25 (0, 0)) (by (with_reducible repeat (first | refine blk_drewN ?_ _ | refine blk_drew ?_ | refine blk_alloc ?_ _)); refine blk_far ?_ NB190_206.out _; (with_reducible repeat (first | refine blk_drewN ?_ _ | refine blk_drew ?_ | refine blk_alloc ?_ _)); refine blk_far ?_ NB190_206.out _; (with_reducible repeat (first | refine blk_drewN ?_ _ | refine blk_drew ?_ | refine blk_alloc ?_ _)); refine blk_far ?_ NB190_206.out _; (with_reducible repeat (first | refine blk_drewN ?_ _ | refine blk_drew ?_ | refine blk_alloc ?_ _)); refine blk_far ?_ NB190_206.out _; (with_reducible repeat (first | refine blk_drewN ?_ _ | refine blk_drew ?_ | refine blk_alloc ?_ _)); refine blk_far ?_ NB190_206.out _; (with_reducible repeat (first | refine blk_drewN ?_ _ | refine blk_drew ?_ | refine blk_alloc ?_ _)); exact BK190.out) hb); have n4_ := Aside0.mk (blk_below (g := gb198) (o := .cells #[.bool t191, .int .u32 t192, .bool t193, .int .i64 t194, .slice Ao14 t195.length co14] 25 (0, 0)) (by (with_reducible repeat (first | refine blk_drewN ?_ _ | refine blk_drew ?_ | refine blk_alloc ?_ _)); refine blk_far ?_ NB198_206.out _; (with_reducible repeat (first | refine blk_drewN ?_ _ | refine blk_drew ?_ | refine blk_alloc ?_ _)); refine blk_far ?_ NB198_206.out _; (with_reducible repeat (first | refine blk_drewN ?_ _ | refine blk_drew ?_ | refine blk_alloc ?_ _)); refine blk_far ?_ NB198_206.out _; (with_reducible repeat (first | refine blk_drewN ?_ _ | refine blk_drew ?_ | refine blk_alloc ?_ _)); refine blk_far ?_ NB198_206.out _; (with_reducible repeat (first | refine blk_drewN ?_ _ | refine blk_drew ?_ | refine blk_alloc ?_ _)); refine blk_far ?_ NB198_206.out _; (with_reducible repeat (first | refine blk_drewN ?_ _ | refine blk_drew ?_ | refine blk_alloc ?_ _)); exact BK198.out) hb); have n5_ := Aside0.mk (blk_below (g := gb206) (o := .cells #[.bool t199, .int .u32 t200, .bool t201, .int .i64 t202, .slice Ao21 t203.length co21] 25 (0, 0)) (by (with_reducible repeat (first | refine blk_drewN ?_ _ | refine blk_drew ?_ | refine blk_alloc ?_ _)); refine blk_put (cs := #[.bool t199, .int .u32 t200, .bool t201, .int .i64 t202, .slice none 0 0]) ?_ 4 _ rfl; (with_reducible repeat (first | refine blk_drewN ?_ _ | refine blk_drew ?_ | refine blk_alloc ?_ _)); refine blk_put (cs := #[.bool t199, .int .u32 t200, .bool t201, .int .i64 0, .slice none 0 0]) ?_ 3 _ rfl; (with_reducible repeat (first | refine blk_drewN ?_ _ | refine blk_drew ?_ | refine blk_alloc ?_ _)); refine blk_put (cs := #[.bool t199, .int .u32 t200, .bool false, .int .i64 0, .slice none 0 0]) ?_ 2 _ rfl; (with_reducible repeat (first | refine blk_drewN ?_ _ | refine blk_drew ?_ | refine blk_alloc ?_ _)); refine blk_put (cs := #[.bool t199, .int .u32 0, .bool false, .int .i64 0, .slice none 0 0]) ?_ 1 _ rfl; (with_reducible repeat (first | refine blk_drewN ?_ _ | refine blk_drew ?_ | refine blk_alloc ?_ _)); refine blk_put (cs := #[.bool false, .int .u32 0, .bool false, .int .i64 0, .slice none 0 0]) ?_ 0 _ rfl; (with_reducible repeat (first | refine blk_drewN ?_ _ | refine blk_drew ?_ | refine blk_alloc ?_ _)); exact BK206.out) hb); have n6_ := Aside0.mk (below_step (by repeat (first | (with_reducible first | exact HB.out | apply below_alloc | apply pw_below_drewN | apply below_drew1 | refine below_set ?_ GE189.out | refine below_set ?_ GE190.out | refine below_set ?_ GE198.out | refine below_set ?_ GE206.out) | exact HB.out)) hb); clear HO197; clear HO205; clear BK189; clear BK190; clear BK198; clear BK206; clear HB; have HO197 := n0_; have HO205 := n1_; have BK189 := n2_; have BK190 := n3_; have BK198 := n4_; have BK206 := n5_; have HB := n6_; clear n0_ n1_ n2_ n3_ n4_ n5_ n6_; (try clear hb); (try clear hb2); (try clear hk); (try clear hi)))
  (try simp only [Act.put, List.setIfInBounds_toArray, List.set_cons_zero, List.set_cons_succ])
  go_cut [] (fun wc => ∃ (kq : Nat) (x199000_5 : Bool) (x199001_5 : Int) (x199002_5 : Bool) (x199003_5 : Int) (x199004_5 : List Int) (u199004 : Value), Aside0 (laws_wPair.j0 kq l1 x199000_5 x199001_5 x199002_5 x199003_5 x199004_5 t199 t200 t201 t202 t203 = some (r1, r2, r3, r4, r5, r6, r7, r8, r9, r10)) ∧ Aside0 (kq ≤ k) ∧ Aside0 (Kd.R (Kd.int .u8) 5 wc w.heap.size (fun k_ => some k_ ≠ ((.slice Ao21 t203.length co21) : Value).ownBlock) u199004 x199004_5) ∧ Aside0 (Kd.R (Kd.int .u8) 5 wc w.heap.size (fun k_ => some k_ ≠ (u199004 : Value).ownBlock) (.slice Ao21 t203.length co21) t203) ∧ Aside0 (wc.heap[gb189]? = some (.cells #[.bool false, .int .u32 0, .bool false, .int .i64 0, (.slice none 0 0)] 25 (0, 0))) ∧ Aside0 (wc.heap[gb190]? = some (.cells #[.bool false, .int .u32 0, .bool false, .int .i64 0, (.slice none 0 0)] 25 (0, 0))) ∧ Aside0 (wc.heap[gb198]? = some (.cells #[.bool x199000_5, .int .u32 x199001_5, .bool x199002_5, .int .i64 x199003_5, u199004] 25 (0, 0))) ∧ Aside0 (wc.heap[gb206]? = some (.cells #[.bool t199, .int .u32 t200, .bool t201, .int .i64 t202, (.slice Ao21 t203.length co21)] 25 (0, 0))) ∧ Aside0 (Below w.heap.size w wc))
  case first =>
    have H := HC6.out
    clear HC6
    by_cases c24 : t207 = true
    · subst c24
      have H1 : (laws_wPair.j0 k l1 t191 t192 t193 t194 t195 t199 t200 t201 t202 t203) = some (r1, r2, r3, r4, r5, r6, r7, r8, r9, r10) := by rw [if_pos rfl] at H; exact H
      clear H
      have H := H1
      clear H1
      have H' := Aside0.mk H
      clear H
      go_wp2
      go_meet
      case rel => exact ⟨_, (t191), (t192), (t193), (t194), (t195), (.slice Ao14 t195.length co14), H', ⟨by first | omega | exact Nat.le_refl _⟩, ⟨by (with_reducible repeat (first | apply Kd.R_alloc | apply Kd.R_drewN | apply Kd.R_drew)); exact Kd.R_mono HO197.out (fun _ hk => hk.2)⟩, ⟨by (with_reducible repeat (first | apply Kd.R_alloc | apply Kd.R_drewN | apply Kd.R_drew)); exact Kd.R_mono HO205.out (fun _ hk => hk.2)⟩, ⟨by (with_reducible repeat (first | refine blk_drewN ?_ _ | refine blk_drew ?_ | refine blk_alloc ?_ _)); exact BK189.out⟩, ⟨by (with_reducible repeat (first | refine blk_drewN ?_ _ | refine blk_drew ?_ | refine blk_alloc ?_ _)); exact BK190.out⟩, ⟨by (with_reducible repeat (first | refine blk_drewN ?_ _ | refine blk_drew ?_ | refine blk_alloc ?_ _)); exact BK198.out⟩, ⟨by (with_reducible repeat (first | refine blk_drewN ?_ _ | refine blk_drew ?_ | refine blk_alloc ?_ _)); exact BK206.out⟩, ⟨by repeat (first | (with_reducible first | exact HB.out | apply below_alloc | apply pw_below_drewN | apply below_drew1 | refine below_set ?_ GE189.out | refine below_set ?_ GE190.out | refine below_set ?_ GE198.out | refine below_set ?_ GE206.out) | exact HB.out)⟩⟩
    · replace c24 := Bool.eq_false_iff.mpr c24
      subst c24
      have H1 : ((laws_wByte.f l0 0).bind fun t208 => (laws_wPair.j0 k l1 false ((t208) % 4294967296) false 0 ([] : List Int) t199 t200 t201 t202 t203)) = some (r1, r2, r3, r4, r5, r6, r7, r8, r9, r10) := by rw [if_neg (show ¬ (false = true) by decide)] at H; exact H
      clear H
      have H := H1
      clear H1
      replace H := Option.bind_eq_some_iff.mp H
      obtain ⟨t208, A250, H⟩ := H
      replace H : (laws_wPair.j0 k l1 false ((t208) % 4294967296) false 0 ([] : List Int) t199 t200 t201 t202 t203) = some (r1, r2, r3, r4, r5, r6, r7, r8, r9, r10) := H
      have A25 := Aside0.mk A250
      clear A250
      have H' := Aside0.mk H
      clear H
      go_wp2_with (first | ((with_reducible refine gate_callee (f := 22) rfl ?_); refine goesL_ (some 16) rfl rfl Try.func22 (by kernel_rfl) rfl #[.slice A0 l0.length c0, .int .i64 0] rfl (by (try simp only [List.map_toArray, List.map_cons, List.map_nil]); first | done | rfl | (simp only [List.length_drop, List.length_take]; rfl)) ?_; (with_reducible refine (laws_wByte.calls _ _ l0 0 t208 _ ?side1 ?side2 A25.out).mono ?_); (case side1 => repeat (first | exact (Kd.C_below HR0.out HB.out) | (with_reducible refine Kd.C_alloc ?_ _) | (with_reducible refine Kd.C_drewN ?_ _) | (with_reducible refine Kd.C_drew ?_))); (case side2 => exact HC0.out); rintro e w' ⟨rfl, ⟨nd, rfl⟩⟩; refine ⟨_, rfl, ?_⟩; (try (rw [drewN_self w23]; generalize hq_ : World.drewN w23 _ = w23; have n0_ : Aside0 (Kd.R (Kd.int .u8) 5 w23 w.heap.size (fun k_ => some k_ ≠ (.slice Ao21 t203.length co21 : Value).ownBlock) (.slice Ao14 t195.length co14) t195) := ⟨by rw [← hq_]; exact (by (with_reducible repeat (first | apply Kd.R_alloc | apply Kd.R_drewN | apply Kd.R_drew)); exact Kd.R_mono HO197.out (fun _ hk => hk.2))⟩; have n1_ : Aside0 (Kd.R (Kd.int .u8) 5 w23 w.heap.size (fun k_ => some k_ ≠ (.slice Ao14 t195.length co14 : Value).ownBlock) (.slice Ao21 t203.length co21) t203) := ⟨by rw [← hq_]; exact (by (with_reducible repeat (first | apply Kd.R_alloc | apply Kd.R_drewN | apply Kd.R_drew)); exact Kd.R_mono HO205.out (fun _ hk => hk.2))⟩; have n2_ : Aside0 (w23.heap[gb189]? = some (.cells #[.bool false, .int .u32 0, .bool false, .int .i64 0, .slice none 0 0] 25 (0, 0))) := ⟨by rw [← hq_]; exact (by (with_reducible repeat (first | refine blk_drewN ?_ _ | refine blk_drew ?_ | refine blk_alloc ?_ _)); exact BK189.out)⟩; have n3_ : Aside0 (w23.heap[gb190]? = some (.cells #[.bool false, .int .u32 0, .bool false, .int .i64 0, .slice none 0 0] 25 (0, 0))) := ⟨by rw [← hq_]; exact (by (with_reducible repeat (first | refine blk_drewN ?_ _ | refine blk_drew ?_ | refine blk_alloc ?_ _)); exact BK190.out)⟩; have n4_ : Aside0 (w23.heap[gb198]? = some (.cells #[.bool t191, .int .u32 t192, .bool t193, .int .i64 t194, .slice Ao14 t195.length co14] 25 (0, 0))) := ⟨by rw [← hq_]; exact (by (with_reducible repeat (first | refine blk_drewN ?_ _ | refine blk_drew ?_ | refine blk_alloc ?_ _)); exact BK198.out)⟩; have n5_ : Aside0 (w23.heap[gb206]? = some (.cells #[.bool t199, .int .u32 t200, .bool t201, .int .i64 t202, .slice Ao21 t203.length co21] 25 (0, 0))) := ⟨by rw [← hq_]; exact (by (with_reducible repeat (first | refine blk_drewN ?_ _ | refine blk_drew ?_ | refine blk_alloc ?_ _)); exact BK206.out)⟩; have n6_ : Aside0 (Below w.heap.size w w23) := ⟨by rw [← hq_]; exact (by repeat (first | (with_reducible first | exact HB.out | apply below_alloc | apply pw_below_drewN | apply below_drew1 | refine below_set ?_ GE189.out | refine below_set ?_ GE190.out | refine below_set ?_ GE198.out | refine below_set ?_ GE206.out) | exact HB.out))⟩; clear HO197 HO205 BK189 BK190 BK198 BK206 HB hq_; have HO197 := n0_; have HO205 := n1_; have BK189 := n2_; have BK190 := n3_; have BK198 := n4_; have BK206 := n5_; have HB := n6_; clear n0_ n1_ n2_ n3_ n4_ n5_ n6_)); have hnb26 := NB198_189.out; have hnc26 := NB189_198.out; have hnb27 := NB198_190.out; have hnc27 := NB190_198.out; have hnb28 := NB198_206.out; have hnc28 := NB206_198.out; have hcz29_0 : w23.cell? ⟨gb198, 0, none⟩ = some (.bool t191) := (blk_cell BK198.out 0).trans rfl; have hcz29_1 : w23.cell? ⟨gb198, 1, none⟩ = some (.int .u32 t192) := (blk_cell BK198.out 1).trans rfl; have hcz29_2 : w23.cell? ⟨gb198, 2, none⟩ = some (.bool t193) := (blk_cell BK198.out 2).trans rfl; have hcz29_3 : w23.cell? ⟨gb198, 3, none⟩ = some (.int .i64 t194) := (blk_cell BK198.out 3).trans rfl; have hcz29_4 : w23.cell? ⟨gb198, 4, none⟩ = some (.slice Ao14 t195.length co14) := (blk_cell BK198.out 4).trans rfl; have hfz29_0 := blk_frozen BK198.out 0; have hfz29_1 := blk_frozen BK198.out 1; have hfz29_2 := blk_frozen BK198.out 2; have hfz29_3 := blk_frozen BK198.out 3; have hfz29_4 := blk_frozen BK198.out 4))
      go_meet
      case rel => exact ⟨_, (false), ((t208) % 4294967296), (false), (0), (([] : List Int)), (.slice none 0 0), H', ⟨by first | omega | exact Nat.le_refl _⟩, ⟨by first | exact Kd.R_nil _ _ _ _ _ | exact Kd.N_nil _ _ _ _ _ | exact Kd.V_nil _ _ _ _ _ | exact Kd.Q_nil _ _ _ _ _ | exact Kd.S_nil _ _ _ _ _⟩, ⟨by (with_reducible repeat (first | apply Kd.R_alloc | apply Kd.R_drewN | apply Kd.R_drew)); exact Kd.R_mono (Kd.R_far (p := ⟨gb198, 4, none⟩) (Kd.R_far (p := ⟨gb198, 3, none⟩) (Kd.R_far (p := ⟨gb198, 2, none⟩) (Kd.R_far (p := ⟨gb198, 1, none⟩) (Kd.R_far (p := ⟨gb198, 0, none⟩) (Kd.R_types HO205.out BK198.out (by decide)) (fun _ hk => hk.2) (.bool false)) (fun _ hk => hk.2) (.int .u32 ((t208) % 4294967296))) (fun _ hk => hk.2) (.bool false)) (fun _ hk => hk.2) (.int .i64 0)) (fun _ hk => hk.2) (.slice none 0 0)) (fun _ hk => (by simp [Value.ownBlock]))⟩, ⟨by (with_reducible repeat (first | refine blk_drewN ?_ _ | refine blk_drew ?_ | refine blk_alloc ?_ _)); refine blk_far ?_ NB189_198.out _; (with_reducible repeat (first | refine blk_drewN ?_ _ | refine blk_drew ?_ | refine blk_alloc ?_ _)); refine blk_far ?_ NB189_198.out _; (with_reducible repeat (first | refine blk_drewN ?_ _ | refine blk_drew ?_ | refine blk_alloc ?_ _)); refine blk_far ?_ NB189_198.out _; (with_reducible repeat (first | refine blk_drewN ?_ _ | refine blk_drew ?_ | refine blk_alloc ?_ _)); refine blk_far ?_ NB189_198.out _; (with_reducible repeat (first | refine blk_drewN ?_ _ | refine blk_drew ?_ | refine blk_alloc ?_ _)); refine blk_far ?_ NB189_198.out _; (with_reducible repeat (first | refine blk_drewN ?_ _ | refine blk_drew ?_ | refine blk_alloc ?_ _)); exact BK189.out⟩, ⟨by (with_reducible repeat (first | refine blk_drewN ?_ _ | refine blk_drew ?_ | refine blk_alloc ?_ _)); refine blk_far ?_ NB190_198.out _; (with_reducible repeat (first | refine blk_drewN ?_ _ | refine blk_drew ?_ | refine blk_alloc ?_ _)); refine blk_far ?_ NB190_198.out _; (with_reducible repeat (first | refine blk_drewN ?_ _ | refine blk_drew ?_ | refine blk_alloc ?_ _)); refine blk_far ?_ NB190_198.out _; (with_reducible repeat (first | refine blk_drewN ?_ _ | refine blk_drew ?_ | refine blk_alloc ?_ _)); refine blk_far ?_ NB190_198.out _; (with_reducible repeat (first | refine blk_drewN ?_ _ | refine blk_drew ?_ | refine blk_alloc ?_ _)); refine blk_far ?_ NB190_198.out _; (with_reducible repeat (first | refine blk_drewN ?_ _ | refine blk_drew ?_ | refine blk_alloc ?_ _)); exact BK190.out⟩, ⟨by (with_reducible repeat (first | refine blk_drewN ?_ _ | refine blk_drew ?_ | refine blk_alloc ?_ _)); refine blk_put (cs := #[.bool false, .int .u32 ((t208) % 4294967296), .bool false, .int .i64 0, .slice Ao14 t195.length co14]) ?_ 4 _ rfl; (with_reducible repeat (first | refine blk_drewN ?_ _ | refine blk_drew ?_ | refine blk_alloc ?_ _)); refine blk_put (cs := #[.bool false, .int .u32 ((t208) % 4294967296), .bool false, .int .i64 t194, .slice Ao14 t195.length co14]) ?_ 3 _ rfl; (with_reducible repeat (first | refine blk_drewN ?_ _ | refine blk_drew ?_ | refine blk_alloc ?_ _)); refine blk_put (cs := #[.bool false, .int .u32 ((t208) % 4294967296), .bool t193, .int .i64 t194, .slice Ao14 t195.length co14]) ?_ 2 _ rfl; (with_reducible repeat (first | refine blk_drewN ?_ _ | refine blk_drew ?_ | refine blk_alloc ?_ _)); refine blk_put (cs := #[.bool false, .int .u32 t192, .bool t193, .int .i64 t194, .slice Ao14 t195.length co14]) ?_ 1 _ rfl; (with_reducible repeat (first | refine blk_drewN ?_ _ | refine blk_drew ?_ | refine blk_alloc ?_ _)); refine blk_put (cs := #[.bool t191, .int .u32 t192, .bool t193, .int .i64 t194, .slice Ao14 t195.length co14]) ?_ 0 _ rfl; (with_reducible repeat (first | refine blk_drewN ?_ _ | refine blk_drew ?_ | refine blk_alloc ?_ _)); exact BK198.out⟩, ⟨by (with_reducible repeat (first | refine blk_drewN ?_ _ | refine blk_drew ?_ | refine blk_alloc ?_ _)); refine blk_far ?_ NB206_198.out _; (with_reducible repeat (first | refine blk_drewN ?_ _ | refine blk_drew ?_ | refine blk_alloc ?_ _)); refine blk_far ?_ NB206_198.out _; (with_reducible repeat (first | refine blk_drewN ?_ _ | refine blk_drew ?_ | refine blk_alloc ?_ _)); refine blk_far ?_ NB206_198.out _; (with_reducible repeat (first | refine blk_drewN ?_ _ | refine blk_drew ?_ | refine blk_alloc ?_ _)); refine blk_far ?_ NB206_198.out _; (with_reducible repeat (first | refine blk_drewN ?_ _ | refine blk_drew ?_ | refine blk_alloc ?_ _)); refine blk_far ?_ NB206_198.out _; (with_reducible repeat (first | refine blk_drewN ?_ _ | refine blk_drew ?_ | refine blk_alloc ?_ _)); exact BK206.out⟩, ⟨by repeat (first | (with_reducible first | exact HB.out | apply below_alloc | apply pw_below_drewN | apply below_drew1 | refine below_set ?_ GE189.out | refine below_set ?_ GE190.out | refine below_set ?_ GE198.out | refine below_set ?_ GE206.out) | exact HB.out)⟩⟩
  case rest =>
    clear HC6
    try clear c1
    try clear c2
    try clear p2
    try clear c8
    try clear c11
    try clear c12
    try clear c14
    try clear c17
    try clear c18
    try clear c19
    try clear c22
    try clear c24
    try clear c25
    try clear c26
    try clear c27
    try clear c28
    try clear hcz13_0
    try clear hcz13_1
    try clear hcz13_2
    try clear hcz13_3
    try clear hcz13_4
    try clear hcz20_0
    try clear hcz20_1
    try clear hcz20_2
    try clear hcz20_3
    try clear hcz20_4
    try clear hcz22_0
    try clear hcz22_1
    try clear hcz22_2
    try clear hcz22_3
    try clear hcz22_4
    try clear hcz29_0
    try clear hcz29_1
    try clear hcz29_2
    try clear hcz29_3
    try clear hcz29_4
    try clear hfz13_0
    try clear hfz13_1
    try clear hfz13_2
    try clear hfz13_3
    try clear hfz13_4
    try clear hfz20_0
    try clear hfz20_1
    try clear hfz20_2
    try clear hfz20_3
    try clear hfz20_4
    try clear hfz22_0
    try clear hfz22_1
    try clear hfz22_2
    try clear hfz22_3
    try clear hfz22_4
    try clear hfz29_0
    try clear hfz29_1
    try clear hfz29_2
    try clear hfz29_3
    try clear hfz29_4
    obtain ⟨kq, x199000_5, x199001_5, x199002_5, x199003_5, x199004_5, u199004, HA, HJ5, HO_199004, HO_207004, BK189, BK190, BK198, BK206, HB⟩ := hcut
    cases kq with
    | zero => exact absurd HA.out (by simp [laws_wPair.j0])
    | succ kj5 =>
      have H := HA.out
      clear HA
      simp only [laws_wPair.j0] at H
      replace H := Option.bind_eq_some_iff.mp H
      obtain ⟨t209, A300, H⟩ := H
      replace H : (if t209 = true then (laws_wPair.j1 kj5 l1 x199000_5 x199001_5 x199002_5 x199003_5 x199004_5 t199 t200 t201 t202 t203) else ((laws_wByte.f l1 0).bind fun t210 => (laws_wPair.j1 kj5 l1 x199000_5 x199001_5 x199002_5 x199003_5 x199004_5 true ((t210) % 4294967296) false 0 ([] : List Int)))) = some (r1, r2, r3, r4, r5, r6, r7, r8, r9, r10) := H
      have A30 := Aside0.mk A300
      clear A300
      have HC31 := Aside0.mk H
      clear H
      have hnb32 := NB206_189.out
      have hnc32 := NB189_206.out
      have hnb33 := NB206_190.out
      have hnc33 := NB190_206.out
      have hnb34 := NB206_198.out
      have hnc34 := NB198_206.out
      have hcz35_0 : wc.cell? ⟨gb206, 0, none⟩ = some (.bool t199) := (blk_cell BK206.out 0).trans rfl
      have hcz35_1 : wc.cell? ⟨gb206, 1, none⟩ = some (.int .u32 t200) := (blk_cell BK206.out 1).trans rfl
      have hcz35_2 : wc.cell? ⟨gb206, 2, none⟩ = some (.bool t201) := (blk_cell BK206.out 2).trans rfl
      have hcz35_3 : wc.cell? ⟨gb206, 3, none⟩ = some (.int .i64 t202) := (blk_cell BK206.out 3).trans rfl
      have hcz35_4 : wc.cell? ⟨gb206, 4, none⟩ = some (.slice Ao21 t203.length co21) := (blk_cell BK206.out 4).trans rfl
      have hfz35_0 := blk_frozen BK206.out 0
      have hfz35_1 := blk_frozen BK206.out 1
      have hfz35_2 := blk_frozen BK206.out 2
      have hfz35_3 := blk_frozen BK206.out 3
      have hfz35_4 := blk_frozen BK206.out 4
      go_upto_if 21 with (first | ((with_reducible refine gate_callee (f := 14) rfl ?_); refine goesL_ (some 20) rfl rfl Try.func14 (by kernel_rfl) rfl #[.agg #[.bool t199, .int .u32 t200, .bool t201, .int .i64 t202, .slice Ao21 t203.length co21]] rfl (by (try simp only [List.map_toArray, List.map_cons, List.map_nil]); first | done | rfl | (simp only [List.length_drop, List.length_take]; rfl)) ?_; (with_reducible refine (spec_ValidFrame.calls kj5 t199 t200 t201 t202 _ _ t203 t209 _ ?side1 ?side2 A30.out).mono ?_); (case side1 => repeat (first | exact (Kd.R_reads' HO_207004.out).2.2 | (with_reducible refine Kd.C_alloc ?_ _) | (with_reducible refine Kd.C_drewN ?_ _) | (with_reducible refine Kd.C_drew ?_))); (case side2 => exact (Kd.R_reads' HO_207004.out).2.1); rintro e w36 ⟨rfl, hb⟩; refine ⟨_, rfl, ?_⟩; have n0_ := Aside0.mk (Kd.R_below (by (with_reducible repeat (first | apply Kd.R_alloc | apply Kd.R_drewN | apply Kd.R_drew)); exact HO_199004.out) hb); have n1_ := Aside0.mk (Kd.R_below (by (with_reducible repeat (first | apply Kd.R_alloc | apply Kd.R_drewN | apply Kd.R_drew)); exact HO_207004.out) hb); have n2_ := Aside0.mk (blk_below (g := gb189) (o := .cells #[.bool false, .int .u32 0, .bool false, .int .i64 0, .slice none 0 0] 25 (0, 0)) (by (with_reducible repeat (first | refine blk_drewN ?_ _ | refine blk_drew ?_ | refine blk_alloc ?_ _)); exact BK189.out) hb); have n3_ := Aside0.mk (blk_below (g := gb190) (o := .cells #[.bool false, .int .u32 0, .bool false, .int .i64 0, .slice none 0 0] 25 (0, 0)) (by (with_reducible repeat (first | refine blk_drewN ?_ _ | refine blk_drew ?_ | refine blk_alloc ?_ _)); exact BK190.out) hb); have n4_ := Aside0.mk (blk_below (g := gb198) (o := .cells #[.bool x199000_5, .int .u32 x199001_5, .bool x199002_5, .int .i64 x199003_5, u199004] 25 (0, 0)) (by (with_reducible repeat (first | refine blk_drewN ?_ _ | refine blk_drew ?_ | refine blk_alloc ?_ _)); exact BK198.out) hb); have n5_ := Aside0.mk (blk_below (g := gb206) (o := .cells #[.bool t199, .int .u32 t200, .bool t201, .int .i64 t202, .slice Ao21 t203.length co21] 25 (0, 0)) (by (with_reducible repeat (first | refine blk_drewN ?_ _ | refine blk_drew ?_ | refine blk_alloc ?_ _)); exact BK206.out) hb); have n6_ := Aside0.mk (below_step (by repeat (first | (with_reducible first | exact HB.out | apply below_alloc | apply pw_below_drewN | apply below_drew1 | refine below_set ?_ GE189.out | refine below_set ?_ GE190.out | refine below_set ?_ GE198.out | refine below_set ?_ GE206.out) | exact HB.out)) hb); clear HO_199004; clear HO_207004; clear BK189; clear BK190; clear BK198; clear BK206; clear HB; have HO_199004 := n0_; have HO_207004 := n1_; have BK189 := n2_; have BK190 := n3_; have BK198 := n4_; have BK206 := n5_; have HB := n6_; clear n0_ n1_ n2_ n3_ n4_ n5_ n6_; (try clear hb); (try clear hb2); (try clear hk); (try clear hi)))
      (try simp only [Act.put, List.setIfInBounds_toArray, List.set_cons_zero, List.set_cons_succ])
      go_cut [] (fun wc => ∃ (kq : Nat) (x207000_30 : Bool) (x207001_30 : Int) (x207002_30 : Bool) (x207003_30 : Int) (x207004_30 : List Int) (u207004 : Value), Aside0 (laws_wPair.j1 kq l1 x199000_5 x199001_5 x199002_5 x199003_5 x199004_5 x207000_30 x207001_30 x207002_30 x207003_30 x207004_30 = some (r1, r2, r3, r4, r5, r6, r7, r8, r9, r10)) ∧ Aside0 (kq ≤ kj5) ∧ Aside0 (Kd.R (Kd.int .u8) 5 wc w.heap.size (fun k_ => some k_ ≠ (u207004 : Value).ownBlock) u199004 x199004_5) ∧ Aside0 (Kd.R (Kd.int .u8) 5 wc w.heap.size (fun k_ => some k_ ≠ (u199004 : Value).ownBlock) u207004 x207004_30) ∧ Aside0 (wc.heap[gb189]? = some (.cells #[.bool false, .int .u32 0, .bool false, .int .i64 0, (.slice none 0 0)] 25 (0, 0))) ∧ Aside0 (wc.heap[gb190]? = some (.cells #[.bool false, .int .u32 0, .bool false, .int .i64 0, (.slice none 0 0)] 25 (0, 0))) ∧ Aside0 (wc.heap[gb198]? = some (.cells #[.bool x199000_5, .int .u32 x199001_5, .bool x199002_5, .int .i64 x199003_5, u199004] 25 (0, 0))) ∧ Aside0 (wc.heap[gb206]? = some (.cells #[.bool x207000_30, .int .u32 x207001_30, .bool x207002_30, .int .i64 x207003_30, u207004] 25 (0, 0))) ∧ Aside0 (Below w.heap.size w wc))
      case first =>
        have H := HC31.out
        clear HC31
        by_cases c37 : t209 = true
        · subst c37
          have H1 : (laws_wPair.j1 kj5 l1 x199000_5 x199001_5 x199002_5 x199003_5 x199004_5 t199 t200 t201 t202 t203) = some (r1, r2, r3, r4, r5, r6, r7, r8, r9, r10) := by rw [if_pos rfl] at H; exact H
          clear H
          have H := H1
          clear H1
          have H' := Aside0.mk H
          clear H
          go_wp2
          go_meet
          case rel => exact ⟨_, (t199), (t200), (t201), (t202), (t203), (.slice Ao21 t203.length co21), H', ⟨by have := HJ5.out; first | omega | exact Nat.le_refl _⟩, ⟨by (with_reducible repeat (first | apply Kd.R_alloc | apply Kd.R_drewN | apply Kd.R_drew)); exact HO_199004.out⟩, ⟨by (with_reducible repeat (first | apply Kd.R_alloc | apply Kd.R_drewN | apply Kd.R_drew)); exact HO_207004.out⟩, ⟨by (with_reducible repeat (first | refine blk_drewN ?_ _ | refine blk_drew ?_ | refine blk_alloc ?_ _)); exact BK189.out⟩, ⟨by (with_reducible repeat (first | refine blk_drewN ?_ _ | refine blk_drew ?_ | refine blk_alloc ?_ _)); exact BK190.out⟩, ⟨by (with_reducible repeat (first | refine blk_drewN ?_ _ | refine blk_drew ?_ | refine blk_alloc ?_ _)); exact BK198.out⟩, ⟨by (with_reducible repeat (first | refine blk_drewN ?_ _ | refine blk_drew ?_ | refine blk_alloc ?_ _)); exact BK206.out⟩, ⟨by repeat (first | (with_reducible first | exact HB.out | apply below_alloc | apply pw_below_drewN | apply below_drew1 | refine below_set ?_ GE189.out | refine below_set ?_ GE190.out | refine below_set ?_ GE198.out | refine below_set ?_ GE206.out) | exact HB.out)⟩⟩
        · replace c37 := Bool.eq_false_iff.mpr c37
          subst c37
          have H1 : ((laws_wByte.f l1 0).bind fun t210 => (laws_wPair.j1 kj5 l1 x199000_5 x199001_5 x199002_5 x199003_5 x199004_5 true ((t210) % 4294967296) false 0 ([] : List Int))) = some (r1, r2, r3, r4, r5, r6, r7, r8, r9, r10) := by rw [if_neg (show ¬ (false = true) by decide)] at H; exact H
          clear H
          have H := H1
          clear H1
          replace H := Option.bind_eq_some_iff.mp H
          obtain ⟨t210, A380, H⟩ := H
          replace H : (laws_wPair.j1 kj5 l1 x199000_5 x199001_5 x199002_5 x199003_5 x199004_5 true ((t210) % 4294967296) false 0 ([] : List Int)) = some (r1, r2, r3, r4, r5, r6, r7, r8, r9, r10) := H
          have A38 := Aside0.mk A380
          clear A380
          have H' := Aside0.mk H
          clear H
          go_wp2_with (first | ((with_reducible refine gate_callee (f := 22) rfl ?_); refine goesL_ (some 23) rfl rfl Try.func22 (by kernel_rfl) rfl #[.slice A1 l1.length c1, .int .i64 0] rfl (by (try simp only [List.map_toArray, List.map_cons, List.map_nil]); first | done | rfl | (simp only [List.length_drop, List.length_take]; rfl)) ?_; (with_reducible refine (laws_wByte.calls _ _ l1 0 t210 _ ?side1 ?side2 A38.out).mono ?_); (case side1 => repeat (first | exact (Kd.C_below HR1.out HB.out) | (with_reducible refine Kd.C_alloc ?_ _) | (with_reducible refine Kd.C_drewN ?_ _) | (with_reducible refine Kd.C_drew ?_))); (case side2 => exact HC1.out); rintro e w' ⟨rfl, ⟨nd, rfl⟩⟩; refine ⟨_, rfl, ?_⟩; (try (rw [drewN_self w36]; generalize hq_ : World.drewN w36 _ = w36; have n0_ : Aside0 (Kd.R (Kd.int .u8) 5 w36 w.heap.size (fun k_ => some k_ ≠ (.slice Ao21 t203.length co21 : Value).ownBlock) u199004 x199004_5) := ⟨by rw [← hq_]; exact (by (with_reducible repeat (first | apply Kd.R_alloc | apply Kd.R_drewN | apply Kd.R_drew)); exact HO_199004.out)⟩; have n1_ : Aside0 (Kd.R (Kd.int .u8) 5 w36 w.heap.size (fun k_ => some k_ ≠ (u199004 : Value).ownBlock) (.slice Ao21 t203.length co21) t203) := ⟨by rw [← hq_]; exact (by (with_reducible repeat (first | apply Kd.R_alloc | apply Kd.R_drewN | apply Kd.R_drew)); exact HO_207004.out)⟩; have n2_ : Aside0 (w36.heap[gb189]? = some (.cells #[.bool false, .int .u32 0, .bool false, .int .i64 0, .slice none 0 0] 25 (0, 0))) := ⟨by rw [← hq_]; exact (by (with_reducible repeat (first | refine blk_drewN ?_ _ | refine blk_drew ?_ | refine blk_alloc ?_ _)); exact BK189.out)⟩; have n3_ : Aside0 (w36.heap[gb190]? = some (.cells #[.bool false, .int .u32 0, .bool false, .int .i64 0, .slice none 0 0] 25 (0, 0))) := ⟨by rw [← hq_]; exact (by (with_reducible repeat (first | refine blk_drewN ?_ _ | refine blk_drew ?_ | refine blk_alloc ?_ _)); exact BK190.out)⟩; have n4_ : Aside0 (w36.heap[gb198]? = some (.cells #[.bool x199000_5, .int .u32 x199001_5, .bool x199002_5, .int .i64 x199003_5, u199004] 25 (0, 0))) := ⟨by rw [← hq_]; exact (by (with_reducible repeat (first | refine blk_drewN ?_ _ | refine blk_drew ?_ | refine blk_alloc ?_ _)); exact BK198.out)⟩; have n5_ : Aside0 (w36.heap[gb206]? = some (.cells #[.bool t199, .int .u32 t200, .bool t201, .int .i64 t202, .slice Ao21 t203.length co21] 25 (0, 0))) := ⟨by rw [← hq_]; exact (by (with_reducible repeat (first | refine blk_drewN ?_ _ | refine blk_drew ?_ | refine blk_alloc ?_ _)); exact BK206.out)⟩; have n6_ : Aside0 (Below w.heap.size w w36) := ⟨by rw [← hq_]; exact (by repeat (first | (with_reducible first | exact HB.out | apply below_alloc | apply pw_below_drewN | apply below_drew1 | refine below_set ?_ GE189.out | refine below_set ?_ GE190.out | refine below_set ?_ GE198.out | refine below_set ?_ GE206.out) | exact HB.out))⟩; clear HO_199004 HO_207004 BK189 BK190 BK198 BK206 HB hq_; have HO_199004 := n0_; have HO_207004 := n1_; have BK189 := n2_; have BK190 := n3_; have BK198 := n4_; have BK206 := n5_; have HB := n6_; clear n0_ n1_ n2_ n3_ n4_ n5_ n6_)); have hnb39 := NB206_189.out; have hnc39 := NB189_206.out; have hnb40 := NB206_190.out; have hnc40 := NB190_206.out; have hnb41 := NB206_198.out; have hnc41 := NB198_206.out; have hcz42_0 : w36.cell? ⟨gb206, 0, none⟩ = some (.bool t199) := (blk_cell BK206.out 0).trans rfl; have hcz42_1 : w36.cell? ⟨gb206, 1, none⟩ = some (.int .u32 t200) := (blk_cell BK206.out 1).trans rfl; have hcz42_2 : w36.cell? ⟨gb206, 2, none⟩ = some (.bool t201) := (blk_cell BK206.out 2).trans rfl; have hcz42_3 : w36.cell? ⟨gb206, 3, none⟩ = some (.int .i64 t202) := (blk_cell BK206.out 3).trans rfl; have hcz42_4 : w36.cell? ⟨gb206, 4, none⟩ = some (.slice Ao21 t203.length co21) := (blk_cell BK206.out 4).trans rfl; have hfz42_0 := blk_frozen BK206.out 0; have hfz42_1 := blk_frozen BK206.out 1; have hfz42_2 := blk_frozen BK206.out 2; have hfz42_3 := blk_frozen BK206.out 3; have hfz42_4 := blk_frozen BK206.out 4))
          go_meet
          case rel => exact ⟨_, (true), ((t210) % 4294967296), (false), (0), (([] : List Int)), (.slice none 0 0), H', ⟨by have := HJ5.out; first | omega | exact Nat.le_refl _⟩, ⟨by (with_reducible repeat (first | apply Kd.R_alloc | apply Kd.R_drewN | apply Kd.R_drew)); exact Kd.R_mono (Kd.R_far (p := ⟨gb206, 4, none⟩) (Kd.R_far (p := ⟨gb206, 3, none⟩) (Kd.R_far (p := ⟨gb206, 2, none⟩) (Kd.R_far (p := ⟨gb206, 1, none⟩) (Kd.R_far (p := ⟨gb206, 0, none⟩) (Kd.R_types HO_199004.out BK206.out (by decide)) (fun _ hk => hk.2) (.bool true)) (fun _ hk => hk.2) (.int .u32 ((t210) % 4294967296))) (fun _ hk => hk.2) (.bool false)) (fun _ hk => hk.2) (.int .i64 0)) (fun _ hk => hk.2) (.slice none 0 0)) (fun _ hk => (by simp [Value.ownBlock]))⟩, ⟨by first | exact Kd.R_nil _ _ _ _ _ | exact Kd.N_nil _ _ _ _ _ | exact Kd.V_nil _ _ _ _ _ | exact Kd.Q_nil _ _ _ _ _ | exact Kd.S_nil _ _ _ _ _⟩, ⟨by (with_reducible repeat (first | refine blk_drewN ?_ _ | refine blk_drew ?_ | refine blk_alloc ?_ _)); refine blk_far ?_ NB189_206.out _; (with_reducible repeat (first | refine blk_drewN ?_ _ | refine blk_drew ?_ | refine blk_alloc ?_ _)); refine blk_far ?_ NB189_206.out _; (with_reducible repeat (first | refine blk_drewN ?_ _ | refine blk_drew ?_ | refine blk_alloc ?_ _)); refine blk_far ?_ NB189_206.out _; (with_reducible repeat (first | refine blk_drewN ?_ _ | refine blk_drew ?_ | refine blk_alloc ?_ _)); refine blk_far ?_ NB189_206.out _; (with_reducible repeat (first | refine blk_drewN ?_ _ | refine blk_drew ?_ | refine blk_alloc ?_ _)); refine blk_far ?_ NB189_206.out _; (with_reducible repeat (first | refine blk_drewN ?_ _ | refine blk_drew ?_ | refine blk_alloc ?_ _)); exact BK189.out⟩, ⟨by (with_reducible repeat (first | refine blk_drewN ?_ _ | refine blk_drew ?_ | refine blk_alloc ?_ _)); refine blk_far ?_ NB190_206.out _; (with_reducible repeat (first | refine blk_drewN ?_ _ | refine blk_drew ?_ | refine blk_alloc ?_ _)); refine blk_far ?_ NB190_206.out _; (with_reducible repeat (first | refine blk_drewN ?_ _ | refine blk_drew ?_ | refine blk_alloc ?_ _)); refine blk_far ?_ NB190_206.out _; (with_reducible repeat (first | refine blk_drewN ?_ _ | refine blk_drew ?_ | refine blk_alloc ?_ _)); refine blk_far ?_ NB190_206.out _; (with_reducible repeat (first | refine blk_drewN ?_ _ | refine blk_drew ?_ | refine blk_alloc ?_ _)); refine blk_far ?_ NB190_206.out _; (with_reducible repeat (first | refine blk_drewN ?_ _ | refine blk_drew ?_ | refine blk_alloc ?_ _)); exact BK190.out⟩, ⟨by (with_reducible repeat (first | refine blk_drewN ?_ _ | refine blk_drew ?_ | refine blk_alloc ?_ _)); refine blk_far ?_ NB198_206.out _; (with_reducible repeat (first | refine blk_drewN ?_ _ | refine blk_drew ?_ | refine blk_alloc ?_ _)); refine blk_far ?_ NB198_206.out _; (with_reducible repeat (first | refine blk_drewN ?_ _ | refine blk_drew ?_ | refine blk_alloc ?_ _)); refine blk_far ?_ NB198_206.out _; (with_reducible repeat (first | refine blk_drewN ?_ _ | refine blk_drew ?_ | refine blk_alloc ?_ _)); refine blk_far ?_ NB198_206.out _; (with_reducible repeat (first | refine blk_drewN ?_ _ | refine blk_drew ?_ | refine blk_alloc ?_ _)); refine blk_far ?_ NB198_206.out _; (with_reducible repeat (first | refine blk_drewN ?_ _ | refine blk_drew ?_ | refine blk_alloc ?_ _)); exact BK198.out⟩, ⟨by (with_reducible repeat (first | refine blk_drewN ?_ _ | refine blk_drew ?_ | refine blk_alloc ?_ _)); refine blk_put (cs := #[.bool true, .int .u32 ((t210) % 4294967296), .bool false, .int .i64 0, .slice Ao21 t203.length co21]) ?_ 4 _ rfl; (with_reducible repeat (first | refine blk_drewN ?_ _ | refine blk_drew ?_ | refine blk_alloc ?_ _)); refine blk_put (cs := #[.bool true, .int .u32 ((t210) % 4294967296), .bool false, .int .i64 t202, .slice Ao21 t203.length co21]) ?_ 3 _ rfl; (with_reducible repeat (first | refine blk_drewN ?_ _ | refine blk_drew ?_ | refine blk_alloc ?_ _)); refine blk_put (cs := #[.bool true, .int .u32 ((t210) % 4294967296), .bool t201, .int .i64 t202, .slice Ao21 t203.length co21]) ?_ 2 _ rfl; (with_reducible repeat (first | refine blk_drewN ?_ _ | refine blk_drew ?_ | refine blk_alloc ?_ _)); refine blk_put (cs := #[.bool true, .int .u32 t200, .bool t201, .int .i64 t202, .slice Ao21 t203.length co21]) ?_ 1 _ rfl; (with_reducible repeat (first | refine blk_drewN ?_ _ | refine blk_drew ?_ | refine blk_alloc ?_ _)); refine blk_put (cs := #[.bool t199, .int .u32 t200, .bool t201, .int .i64 t202, .slice Ao21 t203.length co21]) ?_ 0 _ rfl; (with_reducible repeat (first | refine blk_drewN ?_ _ | refine blk_drew ?_ | refine blk_alloc ?_ _)); exact BK206.out⟩, ⟨by repeat (first | (with_reducible first | exact HB.out | apply below_alloc | apply pw_below_drewN | apply below_drew1 | refine below_set ?_ GE189.out | refine below_set ?_ GE190.out | refine below_set ?_ GE198.out | refine below_set ?_ GE206.out) | exact HB.out)⟩⟩
      case rest =>
        clear HC31
        try clear c1
        try clear c2
        try clear p2
        try clear c3
        try clear c4
        try clear c8
        try clear c11
        try clear c12
        try clear c14
        try clear c17
        try clear c18
        try clear c19
        try clear c22
        try clear c24
        try clear c25
        try clear c26
        try clear c27
        try clear c28
        try clear c32
        try clear c33
        try clear c34
        try clear c37
        try clear c39
        try clear c40
        try clear c41
        try clear hcz13_0
        try clear hcz13_1
        try clear hcz13_2
        try clear hcz13_3
        try clear hcz13_4
        try clear hcz20_0
        try clear hcz20_1
        try clear hcz20_2
        try clear hcz20_3
        try clear hcz20_4
        try clear hcz22_0
        try clear hcz22_1
        try clear hcz22_2
        try clear hcz22_3
        try clear hcz22_4
        try clear hcz29_0
        try clear hcz29_1
        try clear hcz29_2
        try clear hcz29_3
        try clear hcz29_4
        try clear hcz35_0
        try clear hcz35_1
        try clear hcz35_2
        try clear hcz35_3
        try clear hcz35_4
        try clear hcz42_0
        try clear hcz42_1
        try clear hcz42_2
        try clear hcz42_3
        try clear hcz42_4
        try clear hfz13_0
        try clear hfz13_1
        try clear hfz13_2
        try clear hfz13_3
        try clear hfz13_4
        try clear hfz20_0
        try clear hfz20_1
        try clear hfz20_2
        try clear hfz20_3
        try clear hfz20_4
        try clear hfz22_0
        try clear hfz22_1
        try clear hfz22_2
        try clear hfz22_3
        try clear hfz22_4
        try clear hfz29_0
        try clear hfz29_1
        try clear hfz29_2
        try clear hfz29_3
        try clear hfz29_4
        try clear hfz35_0
        try clear hfz35_1
        try clear hfz35_2
        try clear hfz35_3
        try clear hfz35_4
        try clear hfz42_0
        try clear hfz42_1
        try clear hfz42_2
        try clear hfz42_3
        try clear hfz42_4
        try clear p2
        obtain ⟨kq, x207000_30, x207001_30, x207002_30, x207003_30, x207004_30, u207004, HA, HJ30, HO_199004, HO_207004, BK189, BK190, BK198, BK206, HB⟩ := hcut
        cases kq with
        | zero => exact absurd HA.out (by simp [laws_wPair.j1])
        | succ kj30 =>
          have H := HA.out
          clear HA
          simp only [laws_wPair.j1] at H
          replace H := Option.bind_eq_some_iff.mp H
          obtain ⟨t211, A430, H⟩ := H
          replace H : (if (Int.tmod t211 4) = 0 then (some (x199000_5, x199001_5, x199002_5, x199003_5, x199004_5, x199000_5, x199001_5, !x199002_5, 0, ([] : List Int))) else (if (Int.tmod t211 4) = 1 then (if x199000_5 = true then (some (x199000_5, x199001_5, x199002_5, x199003_5, x199004_5, false, x199001_5 / 262144, x207002_30, 0, ([] : List Int))) else (some (x199000_5, x199001_5, x199002_5, x199003_5, x199004_5, true, (x199001_5 * 262144) % 4294967296, x207002_30, 0, ([] : List Int)))) else (if (Int.tmod t211 4) = 2 then ((laws_wByte.f l1 1).bind fun t212 => (if 0 ≤ (IntKind.u64.wrap (Int.tmod t212 11)) then (some (x199000_5, x199001_5, x199002_5, x199003_5, x199004_5, x199000_5, Go.bits .xor .u32 x199001_5 (shl .u32 1 (IntKind.u64.wrap (Int.tmod t212 11))), x199002_5, 0, ([] : List Int))) else (none))) else (some (x199000_5, x199001_5, x199002_5, x199003_5, x199004_5, x207000_30, x207001_30, x207002_30, x207003_30, x207004_30))))) = some (r1, r2, r3, r4, r5, r6, r7, r8, r9, r10) := H
          have A43 := Aside0.mk A430
          clear A430
          by_cases c44 : (Int.tmod t211 4) = 0
          · rw [if_pos c44] at H
            have c44b0 : ((Int.tmod t211 4) == 0) = true := beq_iff_eq.mpr c44
            have c44b1 : ((Int.tmod t211 4) != 0) = false := bne_eq_false_iff_eq.mpr c44
            clear c44
            simp only [Option.some.injEq, Prod.mk.injEq] at H
            obtain ⟨rfl, rfl, rfl, rfl, rfl, rfl, rfl, rfl, rfl, rfl⟩ := H
            try go_wp2_with (first | ((with_reducible refine gate_callee (f := 22) rfl ?_); refine goesL_ (some 27) rfl rfl Try.func22 (by kernel_rfl) rfl #[.slice A1 l1.length c1, .int .i64 0] rfl (by (try simp only [List.map_toArray, List.map_cons, List.map_nil]); first | done | rfl | (simp only [List.length_drop, List.length_take]; rfl)) ?_; (with_reducible refine (laws_wByte.calls _ _ l1 0 t211 _ ?side1 ?side2 A43.out).mono ?_); (case side1 => repeat (first | exact (Kd.C_below HR1.out HB.out) | (with_reducible refine Kd.C_alloc ?_ _) | (with_reducible refine Kd.C_drewN ?_ _) | (with_reducible refine Kd.C_drew ?_))); (case side2 => exact HC1.out); rintro e w' ⟨rfl, ⟨nd, rfl⟩⟩; refine ⟨_, rfl, ?_⟩; (try (rw [drewN_self wc]; generalize hq_ : World.drewN wc _ = wc; have n0_ : Aside0 (Kd.R (Kd.int .u8) 5 wc w.heap.size (fun k_ => some k_ ≠ (u207004 : Value).ownBlock) u199004 x199004_5) := ⟨by rw [← hq_]; exact (by (with_reducible repeat (first | apply Kd.R_alloc | apply Kd.R_drewN | apply Kd.R_drew)); exact HO_199004.out)⟩; have n1_ : Aside0 (Kd.R (Kd.int .u8) 5 wc w.heap.size (fun k_ => some k_ ≠ (u199004 : Value).ownBlock) u207004 x207004_30) := ⟨by rw [← hq_]; exact (by (with_reducible repeat (first | apply Kd.R_alloc | apply Kd.R_drewN | apply Kd.R_drew)); exact HO_207004.out)⟩; have n2_ : Aside0 (wc.heap[gb189]? = some (.cells #[.bool false, .int .u32 0, .bool false, .int .i64 0, .slice none 0 0] 25 (0, 0))) := ⟨by rw [← hq_]; exact (by (with_reducible repeat (first | refine blk_drewN ?_ _ | refine blk_drew ?_ | refine blk_alloc ?_ _)); exact BK189.out)⟩; have n3_ : Aside0 (wc.heap[gb190]? = some (.cells #[.bool false, .int .u32 0, .bool false, .int .i64 0, .slice none 0 0] 25 (0, 0))) := ⟨by rw [← hq_]; exact (by (with_reducible repeat (first | refine blk_drewN ?_ _ | refine blk_drew ?_ | refine blk_alloc ?_ _)); exact BK190.out)⟩; have n4_ : Aside0 (wc.heap[gb198]? = some (.cells #[.bool x199000_5, .int .u32 x199001_5, .bool x199002_5, .int .i64 x199003_5, u199004] 25 (0, 0))) := ⟨by rw [← hq_]; exact (by (with_reducible repeat (first | refine blk_drewN ?_ _ | refine blk_drew ?_ | refine blk_alloc ?_ _)); exact BK198.out)⟩; have n5_ : Aside0 (wc.heap[gb206]? = some (.cells #[.bool x207000_30, .int .u32 x207001_30, .bool x207002_30, .int .i64 x207003_30, u207004] 25 (0, 0))) := ⟨by rw [← hq_]; exact (by (with_reducible repeat (first | refine blk_drewN ?_ _ | refine blk_drew ?_ | refine blk_alloc ?_ _)); exact BK206.out)⟩; have n6_ : Aside0 (Below w.heap.size w wc) := ⟨by rw [← hq_]; exact (by repeat (first | (with_reducible first | exact HB.out | apply below_alloc | apply pw_below_drewN | apply below_drew1 | refine below_set ?_ GE189.out | refine below_set ?_ GE190.out | refine below_set ?_ GE198.out | refine below_set ?_ GE206.out) | exact HB.out))⟩; clear HO_199004 HO_207004 BK189 BK190 BK198 BK206 HB hq_; have HO_199004 := n0_; have HO_207004 := n1_; have BK189 := n2_; have BK190 := n3_; have BK198 := n4_; have BK206 := n5_; have HB := n6_; clear n0_ n1_ n2_ n3_ n4_ n5_ n6_)); have hnb45 := NB198_189.out; have hnc45 := NB189_198.out; have hnb46 := NB198_190.out; have hnc46 := NB190_198.out; have hnb47 := NB198_206.out; have hnc47 := NB206_198.out; have hcz48_0 : wc.cell? ⟨gb198, 0, none⟩ = some (.bool x199000_5) := (blk_cell BK198.out 0).trans rfl; have hcz48_1 : wc.cell? ⟨gb198, 1, none⟩ = some (.int .u32 x199001_5) := (blk_cell BK198.out 1).trans rfl; have hcz48_2 : wc.cell? ⟨gb198, 2, none⟩ = some (.bool x199002_5) := (blk_cell BK198.out 2).trans rfl; have hcz48_3 : wc.cell? ⟨gb198, 3, none⟩ = some (.int .i64 x199003_5) := (blk_cell BK198.out 3).trans rfl; have hcz48_4 : wc.cell? ⟨gb198, 4, none⟩ = some (u199004) := (blk_cell BK198.out 4).trans rfl; have hfz48_0 := blk_frozen BK198.out 0; have hfz48_1 := blk_frozen BK198.out 1; have hfz48_2 := blk_frozen BK198.out 2; have hfz48_3 := blk_frozen BK198.out 3; have hfz48_4 := blk_frozen BK198.out 4; have hnb49 := NB206_189.out; have hnc49 := NB189_206.out; have hnb50 := NB206_190.out; have hnc50 := NB190_206.out; have hcz51_0 : wc.cell? ⟨gb206, 0, none⟩ = some (.bool x207000_30) := (blk_cell BK206.out 0).trans rfl; have hcz51_1 : wc.cell? ⟨gb206, 1, none⟩ = some (.int .u32 x207001_30) := (blk_cell BK206.out 1).trans rfl; have hcz51_2 : wc.cell? ⟨gb206, 2, none⟩ = some (.bool x207002_30) := (blk_cell BK206.out 2).trans rfl; have hcz51_3 : wc.cell? ⟨gb206, 3, none⟩ = some (.int .i64 x207003_30) := (blk_cell BK206.out 3).trans rfl; have hcz51_4 : wc.cell? ⟨gb206, 4, none⟩ = some (u207004) := (blk_cell BK206.out 4).trans rfl; have hfz51_0 := blk_frozen BK206.out 0; have hfz51_1 := blk_frozen BK206.out 1; have hfz51_2 := blk_frozen BK206.out 2; have hfz51_3 := blk_frozen BK206.out 3; have hfz51_4 := blk_frozen BK206.out 4))
            have n0_ : Aside0 (Kd.R (Kd.int .u8) 5 (((((wc.setCell ⟨gb206, 0, none⟩ (.bool x199000_5)).setCell ⟨gb206, 1, none⟩ (.int .u32 x199001_5)).setCell ⟨gb206, 2, none⟩ (.bool (!x199002_5))).setCell ⟨gb206, 3, none⟩ (.int .i64 0)).setCell ⟨gb206, 4, none⟩ (.slice none 0 0)) w.heap.size (fun k_ => some k_ ≠ (u207004 : Value).ownBlock) u199004 x199004_5) := ⟨by (with_reducible repeat (first | apply Kd.R_alloc | apply Kd.R_drewN | apply Kd.R_drew)); exact Kd.R_mono (Kd.R_far (p := ⟨gb206, 4, none⟩) (Kd.R_far (p := ⟨gb206, 3, none⟩) (Kd.R_far (p := ⟨gb206, 2, none⟩) (Kd.R_far (p := ⟨gb206, 1, none⟩) (Kd.R_far (p := ⟨gb206, 0, none⟩) (Kd.R_types HO_199004.out BK206.out (by decide)) (fun _ hk => hk.2) (.bool x199000_5)) (fun _ hk => hk.2) (.int .u32 x199001_5)) (fun _ hk => hk.2) (.bool (!x199002_5))) (fun _ hk => hk.2) (.int .i64 0)) (fun _ hk => hk.2) (.slice none 0 0)) (fun _ hk => hk.1)⟩
            have n1_ : Aside0 (Kd.R (Kd.int .u8) 5 (((((wc.setCell ⟨gb206, 0, none⟩ (.bool x199000_5)).setCell ⟨gb206, 1, none⟩ (.int .u32 x199001_5)).setCell ⟨gb206, 2, none⟩ (.bool (!x199002_5))).setCell ⟨gb206, 3, none⟩ (.int .i64 0)).setCell ⟨gb206, 4, none⟩ (.slice none 0 0)) w.heap.size (fun k_ => some k_ ≠ (u199004 : Value).ownBlock) u207004 x207004_30) := ⟨by (with_reducible repeat (first | apply Kd.R_alloc | apply Kd.R_drewN | apply Kd.R_drew)); exact Kd.R_mono (Kd.R_far (p := ⟨gb206, 4, none⟩) (Kd.R_far (p := ⟨gb206, 3, none⟩) (Kd.R_far (p := ⟨gb206, 2, none⟩) (Kd.R_far (p := ⟨gb206, 1, none⟩) (Kd.R_far (p := ⟨gb206, 0, none⟩) (Kd.R_types HO_207004.out BK206.out (by decide)) (fun _ hk => hk.2) (.bool x199000_5)) (fun _ hk => hk.2) (.int .u32 x199001_5)) (fun _ hk => hk.2) (.bool (!x199002_5))) (fun _ hk => hk.2) (.int .i64 0)) (fun _ hk => hk.2) (.slice none 0 0)) (fun _ hk => hk.1)⟩
            have n2_ : Aside0 ((((((wc.setCell ⟨gb206, 0, none⟩ (.bool x199000_5)).setCell ⟨gb206, 1, none⟩ (.int .u32 x199001_5)).setCell ⟨gb206, 2, none⟩ (.bool (!x199002_5))).setCell ⟨gb206, 3, none⟩ (.int .i64 0)).setCell ⟨gb206, 4, none⟩ (.slice none 0 0)).heap[gb189]? = some (.cells #[.bool false, .int .u32 0, .bool false, .int .i64 0, .slice none 0 0] 25 (0, 0))) := ⟨by (with_reducible repeat (first | refine blk_drewN ?_ _ | refine blk_drew ?_ | refine blk_alloc ?_ _)); refine blk_far ?_ NB189_206.out _; (with_reducible repeat (first | refine blk_drewN ?_ _ | refine blk_drew ?_ | refine blk_alloc ?_ _)); refine blk_far ?_ NB189_206.out _; (with_reducible repeat (first | refine blk_drewN ?_ _ | refine blk_drew ?_ | refine blk_alloc ?_ _)); refine blk_far ?_ NB189_206.out _; (with_reducible repeat (first | refine blk_drewN ?_ _ | refine blk_drew ?_ | refine blk_alloc ?_ _)); refine blk_far ?_ NB189_206.out _; (with_reducible repeat (first | refine blk_drewN ?_ _ | refine blk_drew ?_ | refine blk_alloc ?_ _)); refine blk_far ?_ NB189_206.out _; (with_reducible repeat (first | refine blk_drewN ?_ _ | refine blk_drew ?_ | refine blk_alloc ?_ _)); exact BK189.out⟩
            have n3_ : Aside0 ((((((wc.setCell ⟨gb206, 0, none⟩ (.bool x199000_5)).setCell ⟨gb206, 1, none⟩ (.int .u32 x199001_5)).setCell ⟨gb206, 2, none⟩ (.bool (!x199002_5))).setCell ⟨gb206, 3, none⟩ (.int .i64 0)).setCell ⟨gb206, 4, none⟩ (.slice none 0 0)).heap[gb190]? = some (.cells #[.bool false, .int .u32 0, .bool false, .int .i64 0, .slice none 0 0] 25 (0, 0))) := ⟨by (with_reducible repeat (first | refine blk_drewN ?_ _ | refine blk_drew ?_ | refine blk_alloc ?_ _)); refine blk_far ?_ NB190_206.out _; (with_reducible repeat (first | refine blk_drewN ?_ _ | refine blk_drew ?_ | refine blk_alloc ?_ _)); refine blk_far ?_ NB190_206.out _; (with_reducible repeat (first | refine blk_drewN ?_ _ | refine blk_drew ?_ | refine blk_alloc ?_ _)); refine blk_far ?_ NB190_206.out _; (with_reducible repeat (first | refine blk_drewN ?_ _ | refine blk_drew ?_ | refine blk_alloc ?_ _)); refine blk_far ?_ NB190_206.out _; (with_reducible repeat (first | refine blk_drewN ?_ _ | refine blk_drew ?_ | refine blk_alloc ?_ _)); refine blk_far ?_ NB190_206.out _; (with_reducible repeat (first | refine blk_drewN ?_ _ | refine blk_drew ?_ | refine blk_alloc ?_ _)); exact BK190.out⟩
            have n4_ : Aside0 ((((((wc.setCell ⟨gb206, 0, none⟩ (.bool x199000_5)).setCell ⟨gb206, 1, none⟩ (.int .u32 x199001_5)).setCell ⟨gb206, 2, none⟩ (.bool (!x199002_5))).setCell ⟨gb206, 3, none⟩ (.int .i64 0)).setCell ⟨gb206, 4, none⟩ (.slice none 0 0)).heap[gb198]? = some (.cells #[.bool x199000_5, .int .u32 x199001_5, .bool x199002_5, .int .i64 x199003_5, u199004] 25 (0, 0))) := ⟨by (with_reducible repeat (first | refine blk_drewN ?_ _ | refine blk_drew ?_ | refine blk_alloc ?_ _)); refine blk_far ?_ NB198_206.out _; (with_reducible repeat (first | refine blk_drewN ?_ _ | refine blk_drew ?_ | refine blk_alloc ?_ _)); refine blk_far ?_ NB198_206.out _; (with_reducible repeat (first | refine blk_drewN ?_ _ | refine blk_drew ?_ | refine blk_alloc ?_ _)); refine blk_far ?_ NB198_206.out _; (with_reducible repeat (first | refine blk_drewN ?_ _ | refine blk_drew ?_ | refine blk_alloc ?_ _)); refine blk_far ?_ NB198_206.out _; (with_reducible repeat (first | refine blk_drewN ?_ _ | refine blk_drew ?_ | refine blk_alloc ?_ _)); refine blk_far ?_ NB198_206.out _; (with_reducible repeat (first | refine blk_drewN ?_ _ | refine blk_drew ?_ | refine blk_alloc ?_ _)); exact BK198.out⟩
            have n5_ : Aside0 ((((((wc.setCell ⟨gb206, 0, none⟩ (.bool x199000_5)).setCell ⟨gb206, 1, none⟩ (.int .u32 x199001_5)).setCell ⟨gb206, 2, none⟩ (.bool (!x199002_5))).setCell ⟨gb206, 3, none⟩ (.int .i64 0)).setCell ⟨gb206, 4, none⟩ (.slice none 0 0)).heap[gb206]? = some (.cells #[.bool x199000_5, .int .u32 x199001_5, .bool (!x199002_5), .int .i64 0, .slice none 0 0] 25 (0, 0))) := ⟨by (with_reducible repeat (first | refine blk_drewN ?_ _ | refine blk_drew ?_ | refine blk_alloc ?_ _)); refine blk_put (cs := #[.bool x199000_5, .int .u32 x199001_5, .bool (!x199002_5), .int .i64 0, u207004]) ?_ 4 _ rfl; (with_reducible repeat (first | refine blk_drewN ?_ _ | refine blk_drew ?_ | refine blk_alloc ?_ _)); refine blk_put (cs := #[.bool x199000_5, .int .u32 x199001_5, .bool (!x199002_5), .int .i64 x207003_30, u207004]) ?_ 3 _ rfl; (with_reducible repeat (first | refine blk_drewN ?_ _ | refine blk_drew ?_ | refine blk_alloc ?_ _)); refine blk_put (cs := #[.bool x199000_5, .int .u32 x199001_5, .bool x207002_30, .int .i64 x207003_30, u207004]) ?_ 2 _ rfl; (with_reducible repeat (first | refine blk_drewN ?_ _ | refine blk_drew ?_ | refine blk_alloc ?_ _)); refine blk_put (cs := #[.bool x199000_5, .int .u32 x207001_30, .bool x207002_30, .int .i64 x207003_30, u207004]) ?_ 1 _ rfl; (with_reducible repeat (first | refine blk_drewN ?_ _ | refine blk_drew ?_ | refine blk_alloc ?_ _)); refine blk_put (cs := #[.bool x207000_30, .int .u32 x207001_30, .bool x207002_30, .int .i64 x207003_30, u207004]) ?_ 0 _ rfl; (with_reducible repeat (first | refine blk_drewN ?_ _ | refine blk_drew ?_ | refine blk_alloc ?_ _)); exact BK206.out⟩
            have n6_ : Aside0 (Below w.heap.size w (((((wc.setCell ⟨gb206, 0, none⟩ (.bool x199000_5)).setCell ⟨gb206, 1, none⟩ (.int .u32 x199001_5)).setCell ⟨gb206, 2, none⟩ (.bool (!x199002_5))).setCell ⟨gb206, 3, none⟩ (.int .i64 0)).setCell ⟨gb206, 4, none⟩ (.slice none 0 0))) := ⟨by repeat (first | (with_reducible first | exact HB.out | apply below_alloc | apply pw_below_drewN | apply below_drew1 | refine below_set ?_ GE189.out | refine below_set ?_ GE190.out | refine below_set ?_ GE198.out | refine below_set ?_ GE206.out) | exact HB.out)⟩
            (try clear HO_199004)
            (try clear HO_207004)
            (try clear BK189)
            (try clear BK190)
            (try clear BK198)
            (try clear BK206)
            (try clear HB)
            generalize (((((wc.setCell ⟨gb206, 0, none⟩ (.bool x199000_5)).setCell ⟨gb206, 1, none⟩ (.int .u32 x199001_5)).setCell ⟨gb206, 2, none⟩ (.bool (!x199002_5))).setCell ⟨gb206, 3, none⟩ (.int .i64 0)).setCell ⟨gb206, 4, none⟩ (.slice none 0 0)) = w52 at n0_ n1_ n2_ n3_ n4_ n5_ n6_ ⊢
            have HO_199004 := n0_
            have HO_207004 := n1_
            have BK189 := n2_
            have BK190 := n3_
            have BK198 := n4_
            have BK206 := n5_
            have HB := n6_
            clear n0_ n1_ n2_ n3_ n4_ n5_ n6_
            have n0_ := Aside0.mk (Kd.R_drew HO_199004.out)
            have n1_ := Aside0.mk (Kd.R_drew HO_207004.out)
            have n2_ := Aside0.mk (blk_drew BK189.out)
            have n3_ := Aside0.mk (blk_drew BK190.out)
            have n4_ := Aside0.mk (blk_drew BK198.out)
            have n5_ := Aside0.mk (blk_drew BK206.out)
            have n6_ := Aside0.mk (below_drew1 HB.out)
            clear HO_199004
            clear HO_207004
            clear BK189
            clear BK190
            clear BK198
            clear BK206
            clear HB
            have HO_199004 := n0_
            have HO_207004 := n1_
            have BK189 := n2_
            have BK190 := n3_
            have BK198 := n4_
            have BK206 := n5_
            have HB := n6_
            clear n0_ n1_ n2_ n3_ n4_ n5_ n6_
            obtain ⟨Ao58, co58, eo58⟩ := Kd.R_slice HO_199004.out
            (first | subst eo58 | (injection eo58 with f1_ f2_ f3_; have f4_ := f1_.symm; have f5_ := f3_.symm; clear f1_ f2_ f3_; subst f4_; subst f5_))
            refine start_ (n := 4) (S := fun w' => w'.cell? ⟨gb198, 0, none⟩ = some (.bool x199000_5) ∧ w'.cell? ⟨gb198, 1, none⟩ = some (.int .u32 x199001_5) ∧ w'.cell? ⟨gb198, 2, none⟩ = some (.bool x199002_5) ∧ w'.cell? ⟨gb198, 3, none⟩ = some (.int .i64 x199003_5) ∧ w'.cell? ⟨gb198, 4, none⟩ = some (.slice Ao58 x199004_5.length co58) ∧ w'.cell? ⟨gb206, 0, none⟩ = some (.bool x199000_5) ∧ w'.cell? ⟨gb206, 1, none⟩ = some (.int .u32 x199001_5) ∧ w'.cell? ⟨gb206, 2, none⟩ = some (.bool (!x199002_5)) ∧ w'.cell? ⟨gb206, 3, none⟩ = some (.int .i64 0) ∧ w'.cell? ⟨gb206, 4, none⟩ = some (.slice none 0 0)) (ds := []) #[false, false, false, false] (by kernel_rfl) rfl rfl ⟨(blk_cell BK198.out 0).trans rfl, (blk_cell BK198.out 1).trans rfl, (blk_cell BK198.out 2).trans rfl, (blk_cell BK198.out 3).trans rfl, (blk_cell BK198.out 4).trans rfl, (blk_cell BK206.out 0).trans rfl, (blk_cell BK206.out 1).trans rfl, (blk_cell BK206.out 2).trans rfl, (blk_cell BK206.out 3).trans rfl, (blk_cell BK206.out 4).trans rfl⟩ (fun hHeld => ?_)
            generalize w52.drew = w53 at HO_199004 HO_207004 BK189 BK190 BK198 BK206 HB hHeld ⊢
            refine take_ (i := 0) (N := some 70) (v := ?_) (a' := ?_) #[true, false, false, false] rfl rfl (by kernel_rfl) (fun _ _ _ h => h) (Or.inl ⟨by rfl, ?_⟩) hHeld ?_ ?_
            rotate_left
            · rintro w' ⟨s0, s1, s2, s3, s4, s5, s6, s7, s8, s9⟩
              go_simp
              with_reducible rfl
            rotate_left
            · simp only [Act.put, List.setIfInBounds_toArray, List.set_cons_zero, List.set_cons_succ, i64_w, i32_w]
              rfl
            refine take_ (i := 1) (N := some 71) (v := ?_) (a' := ?_) #[true, true, false, false] rfl rfl (by kernel_rfl) (fun _ _ _ h => h) (Or.inl ⟨by rfl, ?_⟩) hHeld ?_ ?_
            rotate_left
            · rintro w' ⟨s0, s1, s2, s3, s4, s5, s6, s7, s8, s9⟩
              go_simp
              with_reducible rfl
            rotate_left
            · simp only [Act.put, List.setIfInBounds_toArray, List.set_cons_zero, List.set_cons_succ, i64_w, i32_w]
              rfl
            refine one_ (i := 2) (N := none) #[true, true, true, false] rfl rfl (by kernel_rfl) (by decide) (fun K hK => ?_)
            have hs54 : w53.cell? ⟨gb189, 0, none⟩ = some (.bool false) := (blk_cell BK189.out 0).trans rfl
            have hfs54 := blk_frozen BK189.out 0
            have hns54_1 := NB190_189.out
            have hns54_2 := NB198_189.out
            have hns54_3 := NB206_189.out
            have hms54_1 := NB189_190.out
            have hms54_2 := NB189_198.out
            have hms54_3 := NB189_206.out
            have hs55 : w53.cell? ⟨gb189, 1, none⟩ = some (.int .u32 0) := (blk_cell BK189.out 1).trans rfl
            have hfs55 := blk_frozen BK189.out 1
            have hns55_1 := NB190_189.out
            have hns55_2 := NB198_189.out
            have hns55_3 := NB206_189.out
            have hms55_1 := NB189_190.out
            have hms55_2 := NB189_198.out
            have hms55_3 := NB189_206.out
            have hs56 : w53.cell? ⟨gb189, 2, none⟩ = some (.bool false) := (blk_cell BK189.out 2).trans rfl
            have hfs56 := blk_frozen BK189.out 2
            have hns56_1 := NB190_189.out
            have hns56_2 := NB198_189.out
            have hns56_3 := NB206_189.out
            have hms56_1 := NB189_190.out
            have hms56_2 := NB189_198.out
            have hms56_3 := NB189_206.out
            have hs57 : w53.cell? ⟨gb189, 3, none⟩ = some (.int .i64 0) := (blk_cell BK189.out 3).trans rfl
            have hfs57 := blk_frozen BK189.out 3
            have hns57_1 := NB190_189.out
            have hns57_2 := NB198_189.out
            have hns57_3 := NB206_189.out
            have hms57_1 := NB189_190.out
            have hms57_2 := NB189_198.out
            have hms57_3 := NB189_206.out
            have hs59 : w53.cell? ⟨gb189, 4, none⟩ = some (.slice none 0 0) := (blk_cell BK189.out 4).trans rfl
            have hfs59 := blk_frozen BK189.out 4
            have hns59_1 := NB190_189.out
            have hns59_2 := NB198_189.out
            have hns59_3 := NB206_189.out
            have hms59_1 := NB189_190.out
            have hms59_2 := NB189_198.out
            have hms59_3 := NB189_206.out
            refine skip_ (w1 := ?_) (by rfl) rfl ?_ ?_
            rotate_left
            · go_simp
              rfl
            refine hK.out _ _ ⟨((cell_far (p := ⟨gb189, _, none⟩) NB198_189.out _).trans (((cell_far (p := ⟨gb189, _, none⟩) NB198_189.out _).trans (((cell_far (p := ⟨gb189, _, none⟩) NB198_189.out _).trans (((cell_far (p := ⟨gb189, _, none⟩) NB198_189.out _).trans (((cell_far (p := ⟨gb189, _, none⟩) NB198_189.out _).trans (hHeld.1)))))))))), ((cell_far (p := ⟨gb189, _, none⟩) NB198_189.out _).trans (((cell_far (p := ⟨gb189, _, none⟩) NB198_189.out _).trans (((cell_far (p := ⟨gb189, _, none⟩) NB198_189.out _).trans (((cell_far (p := ⟨gb189, _, none⟩) NB198_189.out _).trans (((cell_far (p := ⟨gb189, _, none⟩) NB198_189.out _).trans (hHeld.2.1)))))))))), ((cell_far (p := ⟨gb189, _, none⟩) NB198_189.out _).trans (((cell_far (p := ⟨gb189, _, none⟩) NB198_189.out _).trans (((cell_far (p := ⟨gb189, _, none⟩) NB198_189.out _).trans (((cell_far (p := ⟨gb189, _, none⟩) NB198_189.out _).trans (((cell_far (p := ⟨gb189, _, none⟩) NB198_189.out _).trans (hHeld.2.2.1)))))))))), ((cell_far (p := ⟨gb189, _, none⟩) NB198_189.out _).trans (((cell_far (p := ⟨gb189, _, none⟩) NB198_189.out _).trans (((cell_far (p := ⟨gb189, _, none⟩) NB198_189.out _).trans (((cell_far (p := ⟨gb189, _, none⟩) NB198_189.out _).trans (((cell_far (p := ⟨gb189, _, none⟩) NB198_189.out _).trans (hHeld.2.2.2.1)))))))))), ((cell_far (p := ⟨gb189, _, none⟩) NB198_189.out _).trans (((cell_far (p := ⟨gb189, _, none⟩) NB198_189.out _).trans (((cell_far (p := ⟨gb189, _, none⟩) NB198_189.out _).trans (((cell_far (p := ⟨gb189, _, none⟩) NB198_189.out _).trans (((cell_far (p := ⟨gb189, _, none⟩) NB198_189.out _).trans (hHeld.2.2.2.2.1)))))))))), ((cell_far (p := ⟨gb189, _, none⟩) NB206_189.out _).trans (((cell_far (p := ⟨gb189, _, none⟩) NB206_189.out _).trans (((cell_far (p := ⟨gb189, _, none⟩) NB206_189.out _).trans (((cell_far (p := ⟨gb189, _, none⟩) NB206_189.out _).trans (((cell_far (p := ⟨gb189, _, none⟩) NB206_189.out _).trans (hHeld.2.2.2.2.2.1)))))))))), ((cell_far (p := ⟨gb189, _, none⟩) NB206_189.out _).trans (((cell_far (p := ⟨gb189, _, none⟩) NB206_189.out _).trans (((cell_far (p := ⟨gb189, _, none⟩) NB206_189.out _).trans (((cell_far (p := ⟨gb189, _, none⟩) NB206_189.out _).trans (((cell_far (p := ⟨gb189, _, none⟩) NB206_189.out _).trans (hHeld.2.2.2.2.2.2.1)))))))))), ((cell_far (p := ⟨gb189, _, none⟩) NB206_189.out _).trans (((cell_far (p := ⟨gb189, _, none⟩) NB206_189.out _).trans (((cell_far (p := ⟨gb189, _, none⟩) NB206_189.out _).trans (((cell_far (p := ⟨gb189, _, none⟩) NB206_189.out _).trans (((cell_far (p := ⟨gb189, _, none⟩) NB206_189.out _).trans (hHeld.2.2.2.2.2.2.2.1)))))))))), ((cell_far (p := ⟨gb189, _, none⟩) NB206_189.out _).trans (((cell_far (p := ⟨gb189, _, none⟩) NB206_189.out _).trans (((cell_far (p := ⟨gb189, _, none⟩) NB206_189.out _).trans (((cell_far (p := ⟨gb189, _, none⟩) NB206_189.out _).trans (((cell_far (p := ⟨gb189, _, none⟩) NB206_189.out _).trans (hHeld.2.2.2.2.2.2.2.2.1)))))))))), ((cell_far (p := ⟨gb189, _, none⟩) NB206_189.out _).trans (((cell_far (p := ⟨gb189, _, none⟩) NB206_189.out _).trans (((cell_far (p := ⟨gb189, _, none⟩) NB206_189.out _).trans (((cell_far (p := ⟨gb189, _, none⟩) NB206_189.out _).trans (((cell_far (p := ⟨gb189, _, none⟩) NB206_189.out _).trans (hHeld.2.2.2.2.2.2.2.2.2))))))))))⟩ (fun hHeld => ?_)
            clear hK K
            refine one_ (i := 3) (N := none) #[true, true, true, true] rfl rfl (by kernel_rfl) (by decide) (fun K hK => ?_)
            have hs60 : w53.cell? ⟨gb190, 0, none⟩ = some (.bool false) := (blk_cell BK190.out 0).trans rfl
            have hfs60 := blk_frozen BK190.out 0
            have hns60_0 := NB189_190.out
            have hns60_2 := NB198_190.out
            have hns60_3 := NB206_190.out
            have hms60_0 := NB190_189.out
            have hms60_2 := NB190_198.out
            have hms60_3 := NB190_206.out
            have hs61 : w53.cell? ⟨gb190, 1, none⟩ = some (.int .u32 0) := (blk_cell BK190.out 1).trans rfl
            have hfs61 := blk_frozen BK190.out 1
            have hns61_0 := NB189_190.out
            have hns61_2 := NB198_190.out
            have hns61_3 := NB206_190.out
            have hms61_0 := NB190_189.out
            have hms61_2 := NB190_198.out
            have hms61_3 := NB190_206.out
            have hs62 : w53.cell? ⟨gb190, 2, none⟩ = some (.bool false) := (blk_cell BK190.out 2).trans rfl
            have hfs62 := blk_frozen BK190.out 2
            have hns62_0 := NB189_190.out
            have hns62_2 := NB198_190.out
            have hns62_3 := NB206_190.out
            have hms62_0 := NB190_189.out
            have hms62_2 := NB190_198.out
            have hms62_3 := NB190_206.out
            have hs63 : w53.cell? ⟨gb190, 3, none⟩ = some (.int .i64 0) := (blk_cell BK190.out 3).trans rfl
            have hfs63 := blk_frozen BK190.out 3
            have hns63_0 := NB189_190.out
            have hns63_2 := NB198_190.out
            have hns63_3 := NB206_190.out
            have hms63_0 := NB190_189.out
            have hms63_2 := NB190_198.out
            have hms63_3 := NB190_206.out
            have hs64 : w53.cell? ⟨gb190, 4, none⟩ = some (.slice none 0 0) := (blk_cell BK190.out 4).trans rfl
            have hfs64 := blk_frozen BK190.out 4
            have hns64_0 := NB189_190.out
            have hns64_2 := NB198_190.out
            have hns64_3 := NB206_190.out
            have hms64_0 := NB190_189.out
            have hms64_2 := NB190_198.out
            have hms64_3 := NB190_206.out
            refine skip_ (w1 := ?_) (by rfl) rfl ?_ ?_
            rotate_left
            · go_simp
              rfl
            refine hK.out _ _ ⟨((cell_far (p := ⟨gb190, _, none⟩) NB198_190.out _).trans (((cell_far (p := ⟨gb190, _, none⟩) NB198_190.out _).trans (((cell_far (p := ⟨gb190, _, none⟩) NB198_190.out _).trans (((cell_far (p := ⟨gb190, _, none⟩) NB198_190.out _).trans (((cell_far (p := ⟨gb190, _, none⟩) NB198_190.out _).trans (hHeld.1)))))))))), ((cell_far (p := ⟨gb190, _, none⟩) NB198_190.out _).trans (((cell_far (p := ⟨gb190, _, none⟩) NB198_190.out _).trans (((cell_far (p := ⟨gb190, _, none⟩) NB198_190.out _).trans (((cell_far (p := ⟨gb190, _, none⟩) NB198_190.out _).trans (((cell_far (p := ⟨gb190, _, none⟩) NB198_190.out _).trans (hHeld.2.1)))))))))), ((cell_far (p := ⟨gb190, _, none⟩) NB198_190.out _).trans (((cell_far (p := ⟨gb190, _, none⟩) NB198_190.out _).trans (((cell_far (p := ⟨gb190, _, none⟩) NB198_190.out _).trans (((cell_far (p := ⟨gb190, _, none⟩) NB198_190.out _).trans (((cell_far (p := ⟨gb190, _, none⟩) NB198_190.out _).trans (hHeld.2.2.1)))))))))), ((cell_far (p := ⟨gb190, _, none⟩) NB198_190.out _).trans (((cell_far (p := ⟨gb190, _, none⟩) NB198_190.out _).trans (((cell_far (p := ⟨gb190, _, none⟩) NB198_190.out _).trans (((cell_far (p := ⟨gb190, _, none⟩) NB198_190.out _).trans (((cell_far (p := ⟨gb190, _, none⟩) NB198_190.out _).trans (hHeld.2.2.2.1)))))))))), ((cell_far (p := ⟨gb190, _, none⟩) NB198_190.out _).trans (((cell_far (p := ⟨gb190, _, none⟩) NB198_190.out _).trans (((cell_far (p := ⟨gb190, _, none⟩) NB198_190.out _).trans (((cell_far (p := ⟨gb190, _, none⟩) NB198_190.out _).trans (((cell_far (p := ⟨gb190, _, none⟩) NB198_190.out _).trans (hHeld.2.2.2.2.1)))))))))), ((cell_far (p := ⟨gb190, _, none⟩) NB206_190.out _).trans (((cell_far (p := ⟨gb190, _, none⟩) NB206_190.out _).trans (((cell_far (p := ⟨gb190, _, none⟩) NB206_190.out _).trans (((cell_far (p := ⟨gb190, _, none⟩) NB206_190.out _).trans (((cell_far (p := ⟨gb190, _, none⟩) NB206_190.out _).trans (hHeld.2.2.2.2.2.1)))))))))), ((cell_far (p := ⟨gb190, _, none⟩) NB206_190.out _).trans (((cell_far (p := ⟨gb190, _, none⟩) NB206_190.out _).trans (((cell_far (p := ⟨gb190, _, none⟩) NB206_190.out _).trans (((cell_far (p := ⟨gb190, _, none⟩) NB206_190.out _).trans (((cell_far (p := ⟨gb190, _, none⟩) NB206_190.out _).trans (hHeld.2.2.2.2.2.2.1)))))))))), ((cell_far (p := ⟨gb190, _, none⟩) NB206_190.out _).trans (((cell_far (p := ⟨gb190, _, none⟩) NB206_190.out _).trans (((cell_far (p := ⟨gb190, _, none⟩) NB206_190.out _).trans (((cell_far (p := ⟨gb190, _, none⟩) NB206_190.out _).trans (((cell_far (p := ⟨gb190, _, none⟩) NB206_190.out _).trans (hHeld.2.2.2.2.2.2.2.1)))))))))), ((cell_far (p := ⟨gb190, _, none⟩) NB206_190.out _).trans (((cell_far (p := ⟨gb190, _, none⟩) NB206_190.out _).trans (((cell_far (p := ⟨gb190, _, none⟩) NB206_190.out _).trans (((cell_far (p := ⟨gb190, _, none⟩) NB206_190.out _).trans (((cell_far (p := ⟨gb190, _, none⟩) NB206_190.out _).trans (hHeld.2.2.2.2.2.2.2.2.1)))))))))), ((cell_far (p := ⟨gb190, _, none⟩) NB206_190.out _).trans (((cell_far (p := ⟨gb190, _, none⟩) NB206_190.out _).trans (((cell_far (p := ⟨gb190, _, none⟩) NB206_190.out _).trans (((cell_far (p := ⟨gb190, _, none⟩) NB206_190.out _).trans (((cell_far (p := ⟨gb190, _, none⟩) NB206_190.out _).trans (hHeld.2.2.2.2.2.2.2.2.2))))))))))⟩ (fun hHeld => ?_)
            clear hK K
            refine done_ (by kernel_rfl) ?_
            try go_wp2
            refine bodyPost_ret (results_cc rfl _ _ gb189 gb190 25 25 #[.bool x199000_5, .int .u32 x199001_5, .bool x199002_5, .int .i64 x199003_5, .slice Ao58 x199004_5.length co58] #[.bool x199000_5, .int .u32 x199001_5, .bool (!x199002_5), .int .i64 0, .slice none 0 0] (0, 0) (0, 0) _ _ rfl (by (with_reducible repeat (first | refine blk_drewN ?_ _ | refine blk_drew ?_ | refine blk_alloc ?_ _)); refine blk_far ?_ NB189_190.out _; (with_reducible repeat (first | refine blk_drewN ?_ _ | refine blk_drew ?_ | refine blk_alloc ?_ _)); refine blk_far ?_ NB189_190.out _; (with_reducible repeat (first | refine blk_drewN ?_ _ | refine blk_drew ?_ | refine blk_alloc ?_ _)); refine blk_far ?_ NB189_190.out _; (with_reducible repeat (first | refine blk_drewN ?_ _ | refine blk_drew ?_ | refine blk_alloc ?_ _)); refine blk_far ?_ NB189_190.out _; (with_reducible repeat (first | refine blk_drewN ?_ _ | refine blk_drew ?_ | refine blk_alloc ?_ _)); refine blk_far ?_ NB189_190.out _; (with_reducible repeat (first | refine blk_drewN ?_ _ | refine blk_drew ?_ | refine blk_alloc ?_ _)); refine blk_put (cs := #[.bool x199000_5, .int .u32 x199001_5, .bool x199002_5, .int .i64 x199003_5, .slice none 0 0]) ?_ 4 _ rfl; (with_reducible repeat (first | refine blk_drewN ?_ _ | refine blk_drew ?_ | refine blk_alloc ?_ _)); refine blk_put (cs := #[.bool x199000_5, .int .u32 x199001_5, .bool x199002_5, .int .i64 0, .slice none 0 0]) ?_ 3 _ rfl; (with_reducible repeat (first | refine blk_drewN ?_ _ | refine blk_drew ?_ | refine blk_alloc ?_ _)); refine blk_put (cs := #[.bool x199000_5, .int .u32 x199001_5, .bool false, .int .i64 0, .slice none 0 0]) ?_ 2 _ rfl; (with_reducible repeat (first | refine blk_drewN ?_ _ | refine blk_drew ?_ | refine blk_alloc ?_ _)); refine blk_put (cs := #[.bool x199000_5, .int .u32 0, .bool false, .int .i64 0, .slice none 0 0]) ?_ 1 _ rfl; (with_reducible repeat (first | refine blk_drewN ?_ _ | refine blk_drew ?_ | refine blk_alloc ?_ _)); refine blk_put (cs := #[.bool false, .int .u32 0, .bool false, .int .i64 0, .slice none 0 0]) ?_ 0 _ rfl; (with_reducible repeat (first | refine blk_drewN ?_ _ | refine blk_drew ?_ | refine blk_alloc ?_ _)); exact BK189.out) Try.underlying25 rfl (by kernel_rfl) rfl (by (with_reducible repeat (first | refine blk_drewN ?_ _ | refine blk_drew ?_ | refine blk_alloc ?_ _)); refine blk_put (cs := #[.bool x199000_5, .int .u32 x199001_5, .bool (!x199002_5), .int .i64 0, .slice none 0 0]) ?_ 4 _ rfl; (with_reducible repeat (first | refine blk_drewN ?_ _ | refine blk_drew ?_ | refine blk_alloc ?_ _)); refine blk_put (cs := #[.bool x199000_5, .int .u32 x199001_5, .bool (!x199002_5), .int .i64 0, .slice none 0 0]) ?_ 3 _ rfl; (with_reducible repeat (first | refine blk_drewN ?_ _ | refine blk_drew ?_ | refine blk_alloc ?_ _)); refine blk_put (cs := #[.bool x199000_5, .int .u32 x199001_5, .bool false, .int .i64 0, .slice none 0 0]) ?_ 2 _ rfl; (with_reducible repeat (first | refine blk_drewN ?_ _ | refine blk_drew ?_ | refine blk_alloc ?_ _)); refine blk_put (cs := #[.bool x199000_5, .int .u32 0, .bool false, .int .i64 0, .slice none 0 0]) ?_ 1 _ rfl; (with_reducible repeat (first | refine blk_drewN ?_ _ | refine blk_drew ?_ | refine blk_alloc ?_ _)); refine blk_put (cs := #[.bool false, .int .u32 0, .bool false, .int .i64 0, .slice none 0 0]) ?_ 0 _ rfl; (with_reducible repeat (first | refine blk_drewN ?_ _ | refine blk_drew ?_ | refine blk_alloc ?_ _)); refine blk_far ?_ NB190_189.out _; (with_reducible repeat (first | refine blk_drewN ?_ _ | refine blk_drew ?_ | refine blk_alloc ?_ _)); refine blk_far ?_ NB190_189.out _; (with_reducible repeat (first | refine blk_drewN ?_ _ | refine blk_drew ?_ | refine blk_alloc ?_ _)); refine blk_far ?_ NB190_189.out _; (with_reducible repeat (first | refine blk_drewN ?_ _ | refine blk_drew ?_ | refine blk_alloc ?_ _)); refine blk_far ?_ NB190_189.out _; (with_reducible repeat (first | refine blk_drewN ?_ _ | refine blk_drew ?_ | refine blk_alloc ?_ _)); refine blk_far ?_ NB190_189.out _; (with_reducible repeat (first | refine blk_drewN ?_ _ | refine blk_drew ?_ | refine blk_alloc ?_ _)); exact BK190.out) Try.underlying25 rfl (by kernel_rfl)) rfl ?_
            exact ⟨_, _, by first | rfl | (simp [errW_none, errW_some] <;> rfl) | (simp [*, errW_none, errW_some] <;> rfl), by (with_reducible repeat (first | apply Kd.R_alloc | apply Kd.R_drewN | apply Kd.R_drew)); exact Kd.R_mono (Kd.R_far (p := ⟨gb190, 4, none⟩) (Kd.R_far (p := ⟨gb190, 3, none⟩) (Kd.R_far (p := ⟨gb190, 2, none⟩) (Kd.R_far (p := ⟨gb190, 1, none⟩) (Kd.R_far (p := ⟨gb190, 0, none⟩) (Kd.R_far (p := ⟨gb189, 4, none⟩) (Kd.R_far (p := ⟨gb189, 3, none⟩) (Kd.R_far (p := ⟨gb189, 2, none⟩) (Kd.R_far (p := ⟨gb189, 1, none⟩) (Kd.R_far (p := ⟨gb189, 0, none⟩) (Kd.R_types (Kd.R_types HO_199004.out BK189.out (by decide)) BK190.out (by decide)) (fun _ hk => hk.1.2) (.bool x199000_5)) (fun _ hk => hk.1.2) (.int .u32 x199001_5)) (fun _ hk => hk.1.2) (.bool x199002_5)) (fun _ hk => hk.1.2) (.int .i64 x199003_5)) (fun _ hk => hk.1.2) (.slice Ao58 x199004_5.length co58)) (fun _ hk => hk.2) (.bool x199000_5)) (fun _ hk => hk.2) (.int .u32 x199001_5)) (fun _ hk => hk.2) (.bool (!x199002_5))) (fun _ hk => hk.2) (.int .i64 0)) (fun _ hk => hk.2) (.slice none 0 0)) (fun _ hk => (by simp [Value.ownBlock])), by first | exact Kd.R_nil _ _ _ _ _ | exact Kd.N_nil _ _ _ _ _ | exact Kd.V_nil _ _ _ _ _ | exact Kd.Q_nil _ _ _ _ _ | exact Kd.S_nil _ _ _ _ _, by repeat (first | (with_reducible first | exact HB.out | apply below_alloc | apply pw_below_drewN | apply below_drew1 | refine below_set ?_ GE189.out | refine below_set ?_ GE190.out | refine below_set ?_ GE198.out | refine below_set ?_ GE206.out) | exact HB.out)⟩
          · rw [if_neg c44] at H
            have c44b0 : ((Int.tmod t211 4) == 0) = false := beq_eq_false_iff_ne.mpr c44
            have c44b1 : ((Int.tmod t211 4) != 0) = true := bne_iff_ne.mpr c44
            by_cases c65 : (Int.tmod t211 4) = 1
            · rw [if_pos c65] at H
              have c65b0 : ((Int.tmod t211 4) == 1) = true := beq_iff_eq.mpr c65
              have c65b1 : ((Int.tmod t211 4) != 1) = false := bne_eq_false_iff_eq.mpr c65
              clear c65
              by_cases c66 : x199000_5 = true
              · subst c66
                have H1 : (some (true, x199001_5, x199002_5, x199003_5, x199004_5, false, x199001_5 / 262144, x207002_30, 0, ([] : List Int))) = some (r1, r2, r3, r4, r5, r6, r7, r8, r9, r10) := by rw [if_pos rfl] at H; exact H
                clear H
                have H := H1
                clear H1
                simp only [Option.some.injEq, Prod.mk.injEq] at H
                obtain ⟨rfl, rfl, rfl, rfl, rfl, rfl, rfl, rfl, rfl, rfl⟩ := H
                try go_wp2_with (first | ((with_reducible refine gate_callee (f := 22) rfl ?_); refine goesL_ (some 27) rfl rfl Try.func22 (by kernel_rfl) rfl #[.slice A1 l1.length c1, .int .i64 0] rfl (by (try simp only [List.map_toArray, List.map_cons, List.map_nil]); first | done | rfl | (simp only [List.length_drop, List.length_take]; rfl)) ?_; (with_reducible refine (laws_wByte.calls _ _ l1 0 t211 _ ?side1 ?side2 A43.out).mono ?_); (case side1 => repeat (first | exact (Kd.C_below HR1.out HB.out) | (with_reducible refine Kd.C_alloc ?_ _) | (with_reducible refine Kd.C_drewN ?_ _) | (with_reducible refine Kd.C_drew ?_))); (case side2 => exact HC1.out); rintro e w' ⟨rfl, ⟨nd, rfl⟩⟩; refine ⟨_, rfl, ?_⟩; (try (rw [drewN_self wc]; generalize hq_ : World.drewN wc _ = wc; have n0_ : Aside0 (Kd.R (Kd.int .u8) 5 wc w.heap.size (fun k_ => some k_ ≠ (u207004 : Value).ownBlock) u199004 x199004_5) := ⟨by rw [← hq_]; exact (by (with_reducible repeat (first | apply Kd.R_alloc | apply Kd.R_drewN | apply Kd.R_drew)); exact HO_199004.out)⟩; have n1_ : Aside0 (Kd.R (Kd.int .u8) 5 wc w.heap.size (fun k_ => some k_ ≠ (u199004 : Value).ownBlock) u207004 x207004_30) := ⟨by rw [← hq_]; exact (by (with_reducible repeat (first | apply Kd.R_alloc | apply Kd.R_drewN | apply Kd.R_drew)); exact HO_207004.out)⟩; have n2_ : Aside0 (wc.heap[gb189]? = some (.cells #[.bool false, .int .u32 0, .bool false, .int .i64 0, .slice none 0 0] 25 (0, 0))) := ⟨by rw [← hq_]; exact (by (with_reducible repeat (first | refine blk_drewN ?_ _ | refine blk_drew ?_ | refine blk_alloc ?_ _)); exact BK189.out)⟩; have n3_ : Aside0 (wc.heap[gb190]? = some (.cells #[.bool false, .int .u32 0, .bool false, .int .i64 0, .slice none 0 0] 25 (0, 0))) := ⟨by rw [← hq_]; exact (by (with_reducible repeat (first | refine blk_drewN ?_ _ | refine blk_drew ?_ | refine blk_alloc ?_ _)); exact BK190.out)⟩; have n4_ : Aside0 (wc.heap[gb198]? = some (.cells #[.bool true, .int .u32 x199001_5, .bool x199002_5, .int .i64 x199003_5, u199004] 25 (0, 0))) := ⟨by rw [← hq_]; exact (by (with_reducible repeat (first | refine blk_drewN ?_ _ | refine blk_drew ?_ | refine blk_alloc ?_ _)); exact BK198.out)⟩; have n5_ : Aside0 (wc.heap[gb206]? = some (.cells #[.bool x207000_30, .int .u32 x207001_30, .bool x207002_30, .int .i64 x207003_30, u207004] 25 (0, 0))) := ⟨by rw [← hq_]; exact (by (with_reducible repeat (first | refine blk_drewN ?_ _ | refine blk_drew ?_ | refine blk_alloc ?_ _)); exact BK206.out)⟩; have n6_ : Aside0 (Below w.heap.size w wc) := ⟨by rw [← hq_]; exact (by repeat (first | (with_reducible first | exact HB.out | apply below_alloc | apply pw_below_drewN | apply below_drew1 | refine below_set ?_ GE189.out | refine below_set ?_ GE190.out | refine below_set ?_ GE198.out | refine below_set ?_ GE206.out) | exact HB.out))⟩; clear HO_199004 HO_207004 BK189 BK190 BK198 BK206 HB hq_; have HO_199004 := n0_; have HO_207004 := n1_; have BK189 := n2_; have BK190 := n3_; have BK198 := n4_; have BK206 := n5_; have HB := n6_; clear n0_ n1_ n2_ n3_ n4_ n5_ n6_)); have hnb67 := NB198_189.out; have hnc67 := NB189_198.out; have hnb68 := NB198_190.out; have hnc68 := NB190_198.out; have hnb69 := NB198_206.out; have hnc69 := NB206_198.out; have hcz70_0 : wc.cell? ⟨gb198, 0, none⟩ = some (.bool true) := (blk_cell BK198.out 0).trans rfl; have hcz70_1 : wc.cell? ⟨gb198, 1, none⟩ = some (.int .u32 x199001_5) := (blk_cell BK198.out 1).trans rfl; have hcz70_2 : wc.cell? ⟨gb198, 2, none⟩ = some (.bool x199002_5) := (blk_cell BK198.out 2).trans rfl; have hcz70_3 : wc.cell? ⟨gb198, 3, none⟩ = some (.int .i64 x199003_5) := (blk_cell BK198.out 3).trans rfl; have hcz70_4 : wc.cell? ⟨gb198, 4, none⟩ = some (u199004) := (blk_cell BK198.out 4).trans rfl; have hfz70_0 := blk_frozen BK198.out 0; have hfz70_1 := blk_frozen BK198.out 1; have hfz70_2 := blk_frozen BK198.out 2; have hfz70_3 := blk_frozen BK198.out 3; have hfz70_4 := blk_frozen BK198.out 4; have hnb71 := NB206_189.out; have hnc71 := NB189_206.out; have hnb72 := NB206_190.out; have hnc72 := NB190_206.out; have hcz73_0 : wc.cell? ⟨gb206, 0, none⟩ = some (.bool x207000_30) := (blk_cell BK206.out 0).trans rfl; have hcz73_1 : wc.cell? ⟨gb206, 1, none⟩ = some (.int .u32 x207001_30) := (blk_cell BK206.out 1).trans rfl; have hcz73_2 : wc.cell? ⟨gb206, 2, none⟩ = some (.bool x207002_30) := (blk_cell BK206.out 2).trans rfl; have hcz73_3 : wc.cell? ⟨gb206, 3, none⟩ = some (.int .i64 x207003_30) := (blk_cell BK206.out 3).trans rfl; have hcz73_4 : wc.cell? ⟨gb206, 4, none⟩ = some (u207004) := (blk_cell BK206.out 4).trans rfl; have hfz73_0 := blk_frozen BK206.out 0; have hfz73_1 := blk_frozen BK206.out 1; have hfz73_2 := blk_frozen BK206.out 2; have hfz73_3 := blk_frozen BK206.out 3; have hfz73_4 := blk_frozen BK206.out 4))
                have n0_ : Aside0 (Kd.R (Kd.int .u8) 5 (((((wc.setCell ⟨gb206, 0, none⟩ (.bool false)).setCell ⟨gb206, 1, none⟩ (.int .u32 (x199001_5 / 262144))).setCell ⟨gb206, 2, none⟩ (.bool x207002_30)).setCell ⟨gb206, 3, none⟩ (.int .i64 0)).setCell ⟨gb206, 4, none⟩ (.slice none 0 0)) w.heap.size (fun k_ => some k_ ≠ (u207004 : Value).ownBlock) u199004 x199004_5) := ⟨by (with_reducible repeat (first | apply Kd.R_alloc | apply Kd.R_drewN | apply Kd.R_drew)); exact Kd.R_mono (Kd.R_far (p := ⟨gb206, 4, none⟩) (Kd.R_far (p := ⟨gb206, 3, none⟩) (Kd.R_far (p := ⟨gb206, 2, none⟩) (Kd.R_far (p := ⟨gb206, 1, none⟩) (Kd.R_far (p := ⟨gb206, 0, none⟩) (Kd.R_types HO_199004.out BK206.out (by decide)) (fun _ hk => hk.2) (.bool false)) (fun _ hk => hk.2) (.int .u32 (x199001_5 / 262144))) (fun _ hk => hk.2) (.bool x207002_30)) (fun _ hk => hk.2) (.int .i64 0)) (fun _ hk => hk.2) (.slice none 0 0)) (fun _ hk => hk.1)⟩
                have n1_ : Aside0 (Kd.R (Kd.int .u8) 5 (((((wc.setCell ⟨gb206, 0, none⟩ (.bool false)).setCell ⟨gb206, 1, none⟩ (.int .u32 (x199001_5 / 262144))).setCell ⟨gb206, 2, none⟩ (.bool x207002_30)).setCell ⟨gb206, 3, none⟩ (.int .i64 0)).setCell ⟨gb206, 4, none⟩ (.slice none 0 0)) w.heap.size (fun k_ => some k_ ≠ (u199004 : Value).ownBlock) u207004 x207004_30) := ⟨by (with_reducible repeat (first | apply Kd.R_alloc | apply Kd.R_drewN | apply Kd.R_drew)); exact Kd.R_mono (Kd.R_far (p := ⟨gb206, 4, none⟩) (Kd.R_far (p := ⟨gb206, 3, none⟩) (Kd.R_far (p := ⟨gb206, 2, none⟩) (Kd.R_far (p := ⟨gb206, 1, none⟩) (Kd.R_far (p := ⟨gb206, 0, none⟩) (Kd.R_types HO_207004.out BK206.out (by decide)) (fun _ hk => hk.2) (.bool false)) (fun _ hk => hk.2) (.int .u32 (x199001_5 / 262144))) (fun _ hk => hk.2) (.bool x207002_30)) (fun _ hk => hk.2) (.int .i64 0)) (fun _ hk => hk.2) (.slice none 0 0)) (fun _ hk => hk.1)⟩
                have n2_ : Aside0 ((((((wc.setCell ⟨gb206, 0, none⟩ (.bool false)).setCell ⟨gb206, 1, none⟩ (.int .u32 (x199001_5 / 262144))).setCell ⟨gb206, 2, none⟩ (.bool x207002_30)).setCell ⟨gb206, 3, none⟩ (.int .i64 0)).setCell ⟨gb206, 4, none⟩ (.slice none 0 0)).heap[gb189]? = some (.cells #[.bool false, .int .u32 0, .bool false, .int .i64 0, .slice none 0 0] 25 (0, 0))) := ⟨by (with_reducible repeat (first | refine blk_drewN ?_ _ | refine blk_drew ?_ | refine blk_alloc ?_ _)); refine blk_far ?_ NB189_206.out _; (with_reducible repeat (first | refine blk_drewN ?_ _ | refine blk_drew ?_ | refine blk_alloc ?_ _)); refine blk_far ?_ NB189_206.out _; (with_reducible repeat (first | refine blk_drewN ?_ _ | refine blk_drew ?_ | refine blk_alloc ?_ _)); refine blk_far ?_ NB189_206.out _; (with_reducible repeat (first | refine blk_drewN ?_ _ | refine blk_drew ?_ | refine blk_alloc ?_ _)); refine blk_far ?_ NB189_206.out _; (with_reducible repeat (first | refine blk_drewN ?_ _ | refine blk_drew ?_ | refine blk_alloc ?_ _)); refine blk_far ?_ NB189_206.out _; (with_reducible repeat (first | refine blk_drewN ?_ _ | refine blk_drew ?_ | refine blk_alloc ?_ _)); exact BK189.out⟩
                have n3_ : Aside0 ((((((wc.setCell ⟨gb206, 0, none⟩ (.bool false)).setCell ⟨gb206, 1, none⟩ (.int .u32 (x199001_5 / 262144))).setCell ⟨gb206, 2, none⟩ (.bool x207002_30)).setCell ⟨gb206, 3, none⟩ (.int .i64 0)).setCell ⟨gb206, 4, none⟩ (.slice none 0 0)).heap[gb190]? = some (.cells #[.bool false, .int .u32 0, .bool false, .int .i64 0, .slice none 0 0] 25 (0, 0))) := ⟨by (with_reducible repeat (first | refine blk_drewN ?_ _ | refine blk_drew ?_ | refine blk_alloc ?_ _)); refine blk_far ?_ NB190_206.out _; (with_reducible repeat (first | refine blk_drewN ?_ _ | refine blk_drew ?_ | refine blk_alloc ?_ _)); refine blk_far ?_ NB190_206.out _; (with_reducible repeat (first | refine blk_drewN ?_ _ | refine blk_drew ?_ | refine blk_alloc ?_ _)); refine blk_far ?_ NB190_206.out _; (with_reducible repeat (first | refine blk_drewN ?_ _ | refine blk_drew ?_ | refine blk_alloc ?_ _)); refine blk_far ?_ NB190_206.out _; (with_reducible repeat (first | refine blk_drewN ?_ _ | refine blk_drew ?_ | refine blk_alloc ?_ _)); refine blk_far ?_ NB190_206.out _; (with_reducible repeat (first | refine blk_drewN ?_ _ | refine blk_drew ?_ | refine blk_alloc ?_ _)); exact BK190.out⟩
                have n4_ : Aside0 ((((((wc.setCell ⟨gb206, 0, none⟩ (.bool false)).setCell ⟨gb206, 1, none⟩ (.int .u32 (x199001_5 / 262144))).setCell ⟨gb206, 2, none⟩ (.bool x207002_30)).setCell ⟨gb206, 3, none⟩ (.int .i64 0)).setCell ⟨gb206, 4, none⟩ (.slice none 0 0)).heap[gb198]? = some (.cells #[.bool true, .int .u32 x199001_5, .bool x199002_5, .int .i64 x199003_5, u199004] 25 (0, 0))) := ⟨by (with_reducible repeat (first | refine blk_drewN ?_ _ | refine blk_drew ?_ | refine blk_alloc ?_ _)); refine blk_far ?_ NB198_206.out _; (with_reducible repeat (first | refine blk_drewN ?_ _ | refine blk_drew ?_ | refine blk_alloc ?_ _)); refine blk_far ?_ NB198_206.out _; (with_reducible repeat (first | refine blk_drewN ?_ _ | refine blk_drew ?_ | refine blk_alloc ?_ _)); refine blk_far ?_ NB198_206.out _; (with_reducible repeat (first | refine blk_drewN ?_ _ | refine blk_drew ?_ | refine blk_alloc ?_ _)); refine blk_far ?_ NB198_206.out _; (with_reducible repeat (first | refine blk_drewN ?_ _ | refine blk_drew ?_ | refine blk_alloc ?_ _)); refine blk_far ?_ NB198_206.out _; (with_reducible repeat (first | refine blk_drewN ?_ _ | refine blk_drew ?_ | refine blk_alloc ?_ _)); exact BK198.out⟩
                have n5_ : Aside0 ((((((wc.setCell ⟨gb206, 0, none⟩ (.bool false)).setCell ⟨gb206, 1, none⟩ (.int .u32 (x199001_5 / 262144))).setCell ⟨gb206, 2, none⟩ (.bool x207002_30)).setCell ⟨gb206, 3, none⟩ (.int .i64 0)).setCell ⟨gb206, 4, none⟩ (.slice none 0 0)).heap[gb206]? = some (.cells #[.bool false, .int .u32 (x199001_5 / 262144), .bool x207002_30, .int .i64 0, .slice none 0 0] 25 (0, 0))) := ⟨by (with_reducible repeat (first | refine blk_drewN ?_ _ | refine blk_drew ?_ | refine blk_alloc ?_ _)); refine blk_put (cs := #[.bool false, .int .u32 (x199001_5 / 262144), .bool x207002_30, .int .i64 0, u207004]) ?_ 4 _ rfl; (with_reducible repeat (first | refine blk_drewN ?_ _ | refine blk_drew ?_ | refine blk_alloc ?_ _)); refine blk_put (cs := #[.bool false, .int .u32 (x199001_5 / 262144), .bool x207002_30, .int .i64 x207003_30, u207004]) ?_ 3 _ rfl; (with_reducible repeat (first | refine blk_drewN ?_ _ | refine blk_drew ?_ | refine blk_alloc ?_ _)); refine blk_put (cs := #[.bool false, .int .u32 (x199001_5 / 262144), .bool x207002_30, .int .i64 x207003_30, u207004]) ?_ 2 _ rfl; (with_reducible repeat (first | refine blk_drewN ?_ _ | refine blk_drew ?_ | refine blk_alloc ?_ _)); refine blk_put (cs := #[.bool false, .int .u32 x207001_30, .bool x207002_30, .int .i64 x207003_30, u207004]) ?_ 1 _ rfl; (with_reducible repeat (first | refine blk_drewN ?_ _ | refine blk_drew ?_ | refine blk_alloc ?_ _)); refine blk_put (cs := #[.bool x207000_30, .int .u32 x207001_30, .bool x207002_30, .int .i64 x207003_30, u207004]) ?_ 0 _ rfl; (with_reducible repeat (first | refine blk_drewN ?_ _ | refine blk_drew ?_ | refine blk_alloc ?_ _)); exact BK206.out⟩
                have n6_ : Aside0 (Below w.heap.size w (((((wc.setCell ⟨gb206, 0, none⟩ (.bool false)).setCell ⟨gb206, 1, none⟩ (.int .u32 (x199001_5 / 262144))).setCell ⟨gb206, 2, none⟩ (.bool x207002_30)).setCell ⟨gb206, 3, none⟩ (.int .i64 0)).setCell ⟨gb206, 4, none⟩ (.slice none 0 0))) := ⟨by repeat (first | (with_reducible first | exact HB.out | apply below_alloc | apply pw_below_drewN | apply below_drew1 | refine below_set ?_ GE189.out | refine below_set ?_ GE190.out | refine below_set ?_ GE198.out | refine below_set ?_ GE206.out) | exact HB.out)⟩
                (try clear HO_199004)
                (try clear HO_207004)
                (try clear BK189)
                (try clear BK190)
                (try clear BK198)
                (try clear BK206)
                (try clear HB)
                generalize (((((wc.setCell ⟨gb206, 0, none⟩ (.bool false)).setCell ⟨gb206, 1, none⟩ (.int .u32 (x199001_5 / 262144))).setCell ⟨gb206, 2, none⟩ (.bool x207002_30)).setCell ⟨gb206, 3, none⟩ (.int .i64 0)).setCell ⟨gb206, 4, none⟩ (.slice none 0 0)) = w74 at n0_ n1_ n2_ n3_ n4_ n5_ n6_ ⊢
                have HO_199004 := n0_
                have HO_207004 := n1_
                have BK189 := n2_
                have BK190 := n3_
                have BK198 := n4_
                have BK206 := n5_
                have HB := n6_
                clear n0_ n1_ n2_ n3_ n4_ n5_ n6_
                have n0_ := Aside0.mk (Kd.R_drew HO_199004.out)
                have n1_ := Aside0.mk (Kd.R_drew HO_207004.out)
                have n2_ := Aside0.mk (blk_drew BK189.out)
                have n3_ := Aside0.mk (blk_drew BK190.out)
                have n4_ := Aside0.mk (blk_drew BK198.out)
                have n5_ := Aside0.mk (blk_drew BK206.out)
                have n6_ := Aside0.mk (below_drew1 HB.out)
                clear HO_199004
                clear HO_207004
                clear BK189
                clear BK190
                clear BK198
                clear BK206
                clear HB
                have HO_199004 := n0_
                have HO_207004 := n1_
                have BK189 := n2_
                have BK190 := n3_
                have BK198 := n4_
                have BK206 := n5_
                have HB := n6_
                clear n0_ n1_ n2_ n3_ n4_ n5_ n6_
                obtain ⟨Ao80, co80, eo80⟩ := Kd.R_slice HO_199004.out
                (first | subst eo80 | (injection eo80 with f1_ f2_ f3_; have f4_ := f1_.symm; have f5_ := f3_.symm; clear f1_ f2_ f3_; subst f4_; subst f5_))
                refine start_ (n := 4) (S := fun w' => w'.cell? ⟨gb198, 0, none⟩ = some (.bool true) ∧ w'.cell? ⟨gb198, 1, none⟩ = some (.int .u32 x199001_5) ∧ w'.cell? ⟨gb198, 2, none⟩ = some (.bool x199002_5) ∧ w'.cell? ⟨gb198, 3, none⟩ = some (.int .i64 x199003_5) ∧ w'.cell? ⟨gb198, 4, none⟩ = some (.slice Ao80 x199004_5.length co80) ∧ w'.cell? ⟨gb206, 0, none⟩ = some (.bool false) ∧ w'.cell? ⟨gb206, 1, none⟩ = some (.int .u32 (x199001_5 / 262144)) ∧ w'.cell? ⟨gb206, 2, none⟩ = some (.bool x207002_30) ∧ w'.cell? ⟨gb206, 3, none⟩ = some (.int .i64 0) ∧ w'.cell? ⟨gb206, 4, none⟩ = some (.slice none 0 0)) (ds := []) #[false, false, false, false] (by kernel_rfl) rfl rfl ⟨(blk_cell BK198.out 0).trans rfl, (blk_cell BK198.out 1).trans rfl, (blk_cell BK198.out 2).trans rfl, (blk_cell BK198.out 3).trans rfl, (blk_cell BK198.out 4).trans rfl, (blk_cell BK206.out 0).trans rfl, (blk_cell BK206.out 1).trans rfl, (blk_cell BK206.out 2).trans rfl, (blk_cell BK206.out 3).trans rfl, (blk_cell BK206.out 4).trans rfl⟩ (fun hHeld => ?_)
                generalize w74.drew = w75 at HO_199004 HO_207004 BK189 BK190 BK198 BK206 HB hHeld ⊢
                refine take_ (i := 0) (N := some 70) (v := ?_) (a' := ?_) #[true, false, false, false] rfl rfl (by kernel_rfl) (fun _ _ _ h => h) (Or.inl ⟨by rfl, ?_⟩) hHeld ?_ ?_
                rotate_left
                · rintro w' ⟨s0, s1, s2, s3, s4, s5, s6, s7, s8, s9⟩
                  go_simp
                  with_reducible rfl
                rotate_left
                · simp only [Act.put, List.setIfInBounds_toArray, List.set_cons_zero, List.set_cons_succ, i64_w, i32_w]
                  rfl
                refine take_ (i := 1) (N := some 71) (v := ?_) (a' := ?_) #[true, true, false, false] rfl rfl (by kernel_rfl) (fun _ _ _ h => h) (Or.inl ⟨by rfl, ?_⟩) hHeld ?_ ?_
                rotate_left
                · rintro w' ⟨s0, s1, s2, s3, s4, s5, s6, s7, s8, s9⟩
                  go_simp
                  with_reducible rfl
                rotate_left
                · simp only [Act.put, List.setIfInBounds_toArray, List.set_cons_zero, List.set_cons_succ, i64_w, i32_w]
                  rfl
                refine one_ (i := 2) (N := none) #[true, true, true, false] rfl rfl (by kernel_rfl) (by decide) (fun K hK => ?_)
                have hs76 : w75.cell? ⟨gb189, 0, none⟩ = some (.bool false) := (blk_cell BK189.out 0).trans rfl
                have hfs76 := blk_frozen BK189.out 0
                have hns76_1 := NB190_189.out
                have hns76_2 := NB198_189.out
                have hns76_3 := NB206_189.out
                have hms76_1 := NB189_190.out
                have hms76_2 := NB189_198.out
                have hms76_3 := NB189_206.out
                have hs77 : w75.cell? ⟨gb189, 1, none⟩ = some (.int .u32 0) := (blk_cell BK189.out 1).trans rfl
                have hfs77 := blk_frozen BK189.out 1
                have hns77_1 := NB190_189.out
                have hns77_2 := NB198_189.out
                have hns77_3 := NB206_189.out
                have hms77_1 := NB189_190.out
                have hms77_2 := NB189_198.out
                have hms77_3 := NB189_206.out
                have hs78 : w75.cell? ⟨gb189, 2, none⟩ = some (.bool false) := (blk_cell BK189.out 2).trans rfl
                have hfs78 := blk_frozen BK189.out 2
                have hns78_1 := NB190_189.out
                have hns78_2 := NB198_189.out
                have hns78_3 := NB206_189.out
                have hms78_1 := NB189_190.out
                have hms78_2 := NB189_198.out
                have hms78_3 := NB189_206.out
                have hs79 : w75.cell? ⟨gb189, 3, none⟩ = some (.int .i64 0) := (blk_cell BK189.out 3).trans rfl
                have hfs79 := blk_frozen BK189.out 3
                have hns79_1 := NB190_189.out
                have hns79_2 := NB198_189.out
                have hns79_3 := NB206_189.out
                have hms79_1 := NB189_190.out
                have hms79_2 := NB189_198.out
                have hms79_3 := NB189_206.out
                have hs81 : w75.cell? ⟨gb189, 4, none⟩ = some (.slice none 0 0) := (blk_cell BK189.out 4).trans rfl
                have hfs81 := blk_frozen BK189.out 4
                have hns81_1 := NB190_189.out
                have hns81_2 := NB198_189.out
                have hns81_3 := NB206_189.out
                have hms81_1 := NB189_190.out
                have hms81_2 := NB189_198.out
                have hms81_3 := NB189_206.out
                refine skip_ (w1 := ?_) (by rfl) rfl ?_ ?_
                rotate_left
                · go_simp
                  rfl
                refine hK.out _ _ ⟨((cell_far (p := ⟨gb189, _, none⟩) NB198_189.out _).trans (((cell_far (p := ⟨gb189, _, none⟩) NB198_189.out _).trans (((cell_far (p := ⟨gb189, _, none⟩) NB198_189.out _).trans (((cell_far (p := ⟨gb189, _, none⟩) NB198_189.out _).trans (((cell_far (p := ⟨gb189, _, none⟩) NB198_189.out _).trans (hHeld.1)))))))))), ((cell_far (p := ⟨gb189, _, none⟩) NB198_189.out _).trans (((cell_far (p := ⟨gb189, _, none⟩) NB198_189.out _).trans (((cell_far (p := ⟨gb189, _, none⟩) NB198_189.out _).trans (((cell_far (p := ⟨gb189, _, none⟩) NB198_189.out _).trans (((cell_far (p := ⟨gb189, _, none⟩) NB198_189.out _).trans (hHeld.2.1)))))))))), ((cell_far (p := ⟨gb189, _, none⟩) NB198_189.out _).trans (((cell_far (p := ⟨gb189, _, none⟩) NB198_189.out _).trans (((cell_far (p := ⟨gb189, _, none⟩) NB198_189.out _).trans (((cell_far (p := ⟨gb189, _, none⟩) NB198_189.out _).trans (((cell_far (p := ⟨gb189, _, none⟩) NB198_189.out _).trans (hHeld.2.2.1)))))))))), ((cell_far (p := ⟨gb189, _, none⟩) NB198_189.out _).trans (((cell_far (p := ⟨gb189, _, none⟩) NB198_189.out _).trans (((cell_far (p := ⟨gb189, _, none⟩) NB198_189.out _).trans (((cell_far (p := ⟨gb189, _, none⟩) NB198_189.out _).trans (((cell_far (p := ⟨gb189, _, none⟩) NB198_189.out _).trans (hHeld.2.2.2.1)))))))))), ((cell_far (p := ⟨gb189, _, none⟩) NB198_189.out _).trans (((cell_far (p := ⟨gb189, _, none⟩) NB198_189.out _).trans (((cell_far (p := ⟨gb189, _, none⟩) NB198_189.out _).trans (((cell_far (p := ⟨gb189, _, none⟩) NB198_189.out _).trans (((cell_far (p := ⟨gb189, _, none⟩) NB198_189.out _).trans (hHeld.2.2.2.2.1)))))))))), ((cell_far (p := ⟨gb189, _, none⟩) NB206_189.out _).trans (((cell_far (p := ⟨gb189, _, none⟩) NB206_189.out _).trans (((cell_far (p := ⟨gb189, _, none⟩) NB206_189.out _).trans (((cell_far (p := ⟨gb189, _, none⟩) NB206_189.out _).trans (((cell_far (p := ⟨gb189, _, none⟩) NB206_189.out _).trans (hHeld.2.2.2.2.2.1)))))))))), ((cell_far (p := ⟨gb189, _, none⟩) NB206_189.out _).trans (((cell_far (p := ⟨gb189, _, none⟩) NB206_189.out _).trans (((cell_far (p := ⟨gb189, _, none⟩) NB206_189.out _).trans (((cell_far (p := ⟨gb189, _, none⟩) NB206_189.out _).trans (((cell_far (p := ⟨gb189, _, none⟩) NB206_189.out _).trans (hHeld.2.2.2.2.2.2.1)))))))))), ((cell_far (p := ⟨gb189, _, none⟩) NB206_189.out _).trans (((cell_far (p := ⟨gb189, _, none⟩) NB206_189.out _).trans (((cell_far (p := ⟨gb189, _, none⟩) NB206_189.out _).trans (((cell_far (p := ⟨gb189, _, none⟩) NB206_189.out _).trans (((cell_far (p := ⟨gb189, _, none⟩) NB206_189.out _).trans (hHeld.2.2.2.2.2.2.2.1)))))))))), ((cell_far (p := ⟨gb189, _, none⟩) NB206_189.out _).trans (((cell_far (p := ⟨gb189, _, none⟩) NB206_189.out _).trans (((cell_far (p := ⟨gb189, _, none⟩) NB206_189.out _).trans (((cell_far (p := ⟨gb189, _, none⟩) NB206_189.out _).trans (((cell_far (p := ⟨gb189, _, none⟩) NB206_189.out _).trans (hHeld.2.2.2.2.2.2.2.2.1)))))))))), ((cell_far (p := ⟨gb189, _, none⟩) NB206_189.out _).trans (((cell_far (p := ⟨gb189, _, none⟩) NB206_189.out _).trans (((cell_far (p := ⟨gb189, _, none⟩) NB206_189.out _).trans (((cell_far (p := ⟨gb189, _, none⟩) NB206_189.out _).trans (((cell_far (p := ⟨gb189, _, none⟩) NB206_189.out _).trans (hHeld.2.2.2.2.2.2.2.2.2))))))))))⟩ (fun hHeld => ?_)
                clear hK K
                refine one_ (i := 3) (N := none) #[true, true, true, true] rfl rfl (by kernel_rfl) (by decide) (fun K hK => ?_)
                have hs82 : w75.cell? ⟨gb190, 0, none⟩ = some (.bool false) := (blk_cell BK190.out 0).trans rfl
                have hfs82 := blk_frozen BK190.out 0
                have hns82_0 := NB189_190.out
                have hns82_2 := NB198_190.out
                have hns82_3 := NB206_190.out
                have hms82_0 := NB190_189.out
                have hms82_2 := NB190_198.out
                have hms82_3 := NB190_206.out
                have hs83 : w75.cell? ⟨gb190, 1, none⟩ = some (.int .u32 0) := (blk_cell BK190.out 1).trans rfl
                have hfs83 := blk_frozen BK190.out 1
                have hns83_0 := NB189_190.out
                have hns83_2 := NB198_190.out
                have hns83_3 := NB206_190.out
                have hms83_0 := NB190_189.out
                have hms83_2 := NB190_198.out
                have hms83_3 := NB190_206.out
                have hs84 : w75.cell? ⟨gb190, 2, none⟩ = some (.bool false) := (blk_cell BK190.out 2).trans rfl
                have hfs84 := blk_frozen BK190.out 2
                have hns84_0 := NB189_190.out
                have hns84_2 := NB198_190.out
                have hns84_3 := NB206_190.out
                have hms84_0 := NB190_189.out
                have hms84_2 := NB190_198.out
                have hms84_3 := NB190_206.out
                have hs85 : w75.cell? ⟨gb190, 3, none⟩ = some (.int .i64 0) := (blk_cell BK190.out 3).trans rfl
                have hfs85 := blk_frozen BK190.out 3
                have hns85_0 := NB189_190.out
                have hns85_2 := NB198_190.out
                have hns85_3 := NB206_190.out
                have hms85_0 := NB190_189.out
                have hms85_2 := NB190_198.out
                have hms85_3 := NB190_206.out
                have hs86 : w75.cell? ⟨gb190, 4, none⟩ = some (.slice none 0 0) := (blk_cell BK190.out 4).trans rfl
                have hfs86 := blk_frozen BK190.out 4
                have hns86_0 := NB189_190.out
                have hns86_2 := NB198_190.out
                have hns86_3 := NB206_190.out
                have hms86_0 := NB190_189.out
                have hms86_2 := NB190_198.out
                have hms86_3 := NB190_206.out
                refine skip_ (w1 := ?_) (by rfl) rfl ?_ ?_
                rotate_left
                · go_simp
                  rfl
                refine hK.out _ _ ⟨((cell_far (p := ⟨gb190, _, none⟩) NB198_190.out _).trans (((cell_far (p := ⟨gb190, _, none⟩) NB198_190.out _).trans (((cell_far (p := ⟨gb190, _, none⟩) NB198_190.out _).trans (((cell_far (p := ⟨gb190, _, none⟩) NB198_190.out _).trans (((cell_far (p := ⟨gb190, _, none⟩) NB198_190.out _).trans (hHeld.1)))))))))), ((cell_far (p := ⟨gb190, _, none⟩) NB198_190.out _).trans (((cell_far (p := ⟨gb190, _, none⟩) NB198_190.out _).trans (((cell_far (p := ⟨gb190, _, none⟩) NB198_190.out _).trans (((cell_far (p := ⟨gb190, _, none⟩) NB198_190.out _).trans (((cell_far (p := ⟨gb190, _, none⟩) NB198_190.out _).trans (hHeld.2.1)))))))))), ((cell_far (p := ⟨gb190, _, none⟩) NB198_190.out _).trans (((cell_far (p := ⟨gb190, _, none⟩) NB198_190.out _).trans (((cell_far (p := ⟨gb190, _, none⟩) NB198_190.out _).trans (((cell_far (p := ⟨gb190, _, none⟩) NB198_190.out _).trans (((cell_far (p := ⟨gb190, _, none⟩) NB198_190.out _).trans (hHeld.2.2.1)))))))))), ((cell_far (p := ⟨gb190, _, none⟩) NB198_190.out _).trans (((cell_far (p := ⟨gb190, _, none⟩) NB198_190.out _).trans (((cell_far (p := ⟨gb190, _, none⟩) NB198_190.out _).trans (((cell_far (p := ⟨gb190, _, none⟩) NB198_190.out _).trans (((cell_far (p := ⟨gb190, _, none⟩) NB198_190.out _).trans (hHeld.2.2.2.1)))))))))), ((cell_far (p := ⟨gb190, _, none⟩) NB198_190.out _).trans (((cell_far (p := ⟨gb190, _, none⟩) NB198_190.out _).trans (((cell_far (p := ⟨gb190, _, none⟩) NB198_190.out _).trans (((cell_far (p := ⟨gb190, _, none⟩) NB198_190.out _).trans (((cell_far (p := ⟨gb190, _, none⟩) NB198_190.out _).trans (hHeld.2.2.2.2.1)))))))))), ((cell_far (p := ⟨gb190, _, none⟩) NB206_190.out _).trans (((cell_far (p := ⟨gb190, _, none⟩) NB206_190.out _).trans (((cell_far (p := ⟨gb190, _, none⟩) NB206_190.out _).trans (((cell_far (p := ⟨gb190, _, none⟩) NB206_190.out _).trans (((cell_far (p := ⟨gb190, _, none⟩) NB206_190.out _).trans (hHeld.2.2.2.2.2.1)))))))))), ((cell_far (p := ⟨gb190, _, none⟩) NB206_190.out _).trans (((cell_far (p := ⟨gb190, _, none⟩) NB206_190.out _).trans (((cell_far (p := ⟨gb190, _, none⟩) NB206_190.out _).trans (((cell_far (p := ⟨gb190, _, none⟩) NB206_190.out _).trans (((cell_far (p := ⟨gb190, _, none⟩) NB206_190.out _).trans (hHeld.2.2.2.2.2.2.1)))))))))), ((cell_far (p := ⟨gb190, _, none⟩) NB206_190.out _).trans (((cell_far (p := ⟨gb190, _, none⟩) NB206_190.out _).trans (((cell_far (p := ⟨gb190, _, none⟩) NB206_190.out _).trans (((cell_far (p := ⟨gb190, _, none⟩) NB206_190.out _).trans (((cell_far (p := ⟨gb190, _, none⟩) NB206_190.out _).trans (hHeld.2.2.2.2.2.2.2.1)))))))))), ((cell_far (p := ⟨gb190, _, none⟩) NB206_190.out _).trans (((cell_far (p := ⟨gb190, _, none⟩) NB206_190.out _).trans (((cell_far (p := ⟨gb190, _, none⟩) NB206_190.out _).trans (((cell_far (p := ⟨gb190, _, none⟩) NB206_190.out _).trans (((cell_far (p := ⟨gb190, _, none⟩) NB206_190.out _).trans (hHeld.2.2.2.2.2.2.2.2.1)))))))))), ((cell_far (p := ⟨gb190, _, none⟩) NB206_190.out _).trans (((cell_far (p := ⟨gb190, _, none⟩) NB206_190.out _).trans (((cell_far (p := ⟨gb190, _, none⟩) NB206_190.out _).trans (((cell_far (p := ⟨gb190, _, none⟩) NB206_190.out _).trans (((cell_far (p := ⟨gb190, _, none⟩) NB206_190.out _).trans (hHeld.2.2.2.2.2.2.2.2.2))))))))))⟩ (fun hHeld => ?_)
                clear hK K
                refine done_ (by kernel_rfl) ?_
                try go_wp2
                refine bodyPost_ret (results_cc rfl _ _ gb189 gb190 25 25 #[.bool true, .int .u32 x199001_5, .bool x199002_5, .int .i64 x199003_5, .slice Ao80 x199004_5.length co80] #[.bool false, .int .u32 (x199001_5 / 262144), .bool x207002_30, .int .i64 0, .slice none 0 0] (0, 0) (0, 0) _ _ rfl (by (with_reducible repeat (first | refine blk_drewN ?_ _ | refine blk_drew ?_ | refine blk_alloc ?_ _)); refine blk_far ?_ NB189_190.out _; (with_reducible repeat (first | refine blk_drewN ?_ _ | refine blk_drew ?_ | refine blk_alloc ?_ _)); refine blk_far ?_ NB189_190.out _; (with_reducible repeat (first | refine blk_drewN ?_ _ | refine blk_drew ?_ | refine blk_alloc ?_ _)); refine blk_far ?_ NB189_190.out _; (with_reducible repeat (first | refine blk_drewN ?_ _ | refine blk_drew ?_ | refine blk_alloc ?_ _)); refine blk_far ?_ NB189_190.out _; (with_reducible repeat (first | refine blk_drewN ?_ _ | refine blk_drew ?_ | refine blk_alloc ?_ _)); refine blk_far ?_ NB189_190.out _; (with_reducible repeat (first | refine blk_drewN ?_ _ | refine blk_drew ?_ | refine blk_alloc ?_ _)); refine blk_put (cs := #[.bool true, .int .u32 x199001_5, .bool x199002_5, .int .i64 x199003_5, .slice none 0 0]) ?_ 4 _ rfl; (with_reducible repeat (first | refine blk_drewN ?_ _ | refine blk_drew ?_ | refine blk_alloc ?_ _)); refine blk_put (cs := #[.bool true, .int .u32 x199001_5, .bool x199002_5, .int .i64 0, .slice none 0 0]) ?_ 3 _ rfl; (with_reducible repeat (first | refine blk_drewN ?_ _ | refine blk_drew ?_ | refine blk_alloc ?_ _)); refine blk_put (cs := #[.bool true, .int .u32 x199001_5, .bool false, .int .i64 0, .slice none 0 0]) ?_ 2 _ rfl; (with_reducible repeat (first | refine blk_drewN ?_ _ | refine blk_drew ?_ | refine blk_alloc ?_ _)); refine blk_put (cs := #[.bool true, .int .u32 0, .bool false, .int .i64 0, .slice none 0 0]) ?_ 1 _ rfl; (with_reducible repeat (first | refine blk_drewN ?_ _ | refine blk_drew ?_ | refine blk_alloc ?_ _)); refine blk_put (cs := #[.bool false, .int .u32 0, .bool false, .int .i64 0, .slice none 0 0]) ?_ 0 _ rfl; (with_reducible repeat (first | refine blk_drewN ?_ _ | refine blk_drew ?_ | refine blk_alloc ?_ _)); exact BK189.out) Try.underlying25 rfl (by kernel_rfl) rfl (by (with_reducible repeat (first | refine blk_drewN ?_ _ | refine blk_drew ?_ | refine blk_alloc ?_ _)); refine blk_put (cs := #[.bool false, .int .u32 (x199001_5 / 262144), .bool x207002_30, .int .i64 0, .slice none 0 0]) ?_ 4 _ rfl; (with_reducible repeat (first | refine blk_drewN ?_ _ | refine blk_drew ?_ | refine blk_alloc ?_ _)); refine blk_put (cs := #[.bool false, .int .u32 (x199001_5 / 262144), .bool x207002_30, .int .i64 0, .slice none 0 0]) ?_ 3 _ rfl; (with_reducible repeat (first | refine blk_drewN ?_ _ | refine blk_drew ?_ | refine blk_alloc ?_ _)); refine blk_put (cs := #[.bool false, .int .u32 (x199001_5 / 262144), .bool false, .int .i64 0, .slice none 0 0]) ?_ 2 _ rfl; (with_reducible repeat (first | refine blk_drewN ?_ _ | refine blk_drew ?_ | refine blk_alloc ?_ _)); refine blk_put (cs := #[.bool false, .int .u32 0, .bool false, .int .i64 0, .slice none 0 0]) ?_ 1 _ rfl; (with_reducible repeat (first | refine blk_drewN ?_ _ | refine blk_drew ?_ | refine blk_alloc ?_ _)); refine blk_put (cs := #[.bool false, .int .u32 0, .bool false, .int .i64 0, .slice none 0 0]) ?_ 0 _ rfl; (with_reducible repeat (first | refine blk_drewN ?_ _ | refine blk_drew ?_ | refine blk_alloc ?_ _)); refine blk_far ?_ NB190_189.out _; (with_reducible repeat (first | refine blk_drewN ?_ _ | refine blk_drew ?_ | refine blk_alloc ?_ _)); refine blk_far ?_ NB190_189.out _; (with_reducible repeat (first | refine blk_drewN ?_ _ | refine blk_drew ?_ | refine blk_alloc ?_ _)); refine blk_far ?_ NB190_189.out _; (with_reducible repeat (first | refine blk_drewN ?_ _ | refine blk_drew ?_ | refine blk_alloc ?_ _)); refine blk_far ?_ NB190_189.out _; (with_reducible repeat (first | refine blk_drewN ?_ _ | refine blk_drew ?_ | refine blk_alloc ?_ _)); refine blk_far ?_ NB190_189.out _; (with_reducible repeat (first | refine blk_drewN ?_ _ | refine blk_drew ?_ | refine blk_alloc ?_ _)); exact BK190.out) Try.underlying25 rfl (by kernel_rfl)) rfl ?_
                exact ⟨_, _, by first | rfl | (simp [errW_none, errW_some] <;> rfl) | (simp [*, errW_none, errW_some] <;> rfl), by (with_reducible repeat (first | apply Kd.R_alloc | apply Kd.R_drewN | apply Kd.R_drew)); exact Kd.R_mono (Kd.R_far (p := ⟨gb190, 4, none⟩) (Kd.R_far (p := ⟨gb190, 3, none⟩) (Kd.R_far (p := ⟨gb190, 2, none⟩) (Kd.R_far (p := ⟨gb190, 1, none⟩) (Kd.R_far (p := ⟨gb190, 0, none⟩) (Kd.R_far (p := ⟨gb189, 4, none⟩) (Kd.R_far (p := ⟨gb189, 3, none⟩) (Kd.R_far (p := ⟨gb189, 2, none⟩) (Kd.R_far (p := ⟨gb189, 1, none⟩) (Kd.R_far (p := ⟨gb189, 0, none⟩) (Kd.R_types (Kd.R_types HO_199004.out BK189.out (by decide)) BK190.out (by decide)) (fun _ hk => hk.1.2) (.bool true)) (fun _ hk => hk.1.2) (.int .u32 x199001_5)) (fun _ hk => hk.1.2) (.bool x199002_5)) (fun _ hk => hk.1.2) (.int .i64 x199003_5)) (fun _ hk => hk.1.2) (.slice Ao80 x199004_5.length co80)) (fun _ hk => hk.2) (.bool false)) (fun _ hk => hk.2) (.int .u32 (x199001_5 / 262144))) (fun _ hk => hk.2) (.bool x207002_30)) (fun _ hk => hk.2) (.int .i64 0)) (fun _ hk => hk.2) (.slice none 0 0)) (fun _ hk => (by simp [Value.ownBlock])), by first | exact Kd.R_nil _ _ _ _ _ | exact Kd.N_nil _ _ _ _ _ | exact Kd.V_nil _ _ _ _ _ | exact Kd.Q_nil _ _ _ _ _ | exact Kd.S_nil _ _ _ _ _, by repeat (first | (with_reducible first | exact HB.out | apply below_alloc | apply pw_below_drewN | apply below_drew1 | refine below_set ?_ GE189.out | refine below_set ?_ GE190.out | refine below_set ?_ GE198.out | refine below_set ?_ GE206.out) | exact HB.out)⟩
              · replace c66 := Bool.eq_false_iff.mpr c66
                subst c66
                have H1 : (some (false, x199001_5, x199002_5, x199003_5, x199004_5, true, (x199001_5 * 262144) % 4294967296, x207002_30, 0, ([] : List Int))) = some (r1, r2, r3, r4, r5, r6, r7, r8, r9, r10) := by rw [if_neg (show ¬ (false = true) by decide)] at H; exact H
                clear H
                have H := H1
                clear H1
                simp only [Option.some.injEq, Prod.mk.injEq] at H
                obtain ⟨rfl, rfl, rfl, rfl, rfl, rfl, rfl, rfl, rfl, rfl⟩ := H
                try go_wp2_with (first | ((with_reducible refine gate_callee (f := 22) rfl ?_); refine goesL_ (some 27) rfl rfl Try.func22 (by kernel_rfl) rfl #[.slice A1 l1.length c1, .int .i64 0] rfl (by (try simp only [List.map_toArray, List.map_cons, List.map_nil]); first | done | rfl | (simp only [List.length_drop, List.length_take]; rfl)) ?_; (with_reducible refine (laws_wByte.calls _ _ l1 0 t211 _ ?side1 ?side2 A43.out).mono ?_); (case side1 => repeat (first | exact (Kd.C_below HR1.out HB.out) | (with_reducible refine Kd.C_alloc ?_ _) | (with_reducible refine Kd.C_drewN ?_ _) | (with_reducible refine Kd.C_drew ?_))); (case side2 => exact HC1.out); rintro e w' ⟨rfl, ⟨nd, rfl⟩⟩; refine ⟨_, rfl, ?_⟩; (try (rw [drewN_self wc]; generalize hq_ : World.drewN wc _ = wc; have n0_ : Aside0 (Kd.R (Kd.int .u8) 5 wc w.heap.size (fun k_ => some k_ ≠ (u207004 : Value).ownBlock) u199004 x199004_5) := ⟨by rw [← hq_]; exact (by (with_reducible repeat (first | apply Kd.R_alloc | apply Kd.R_drewN | apply Kd.R_drew)); exact HO_199004.out)⟩; have n1_ : Aside0 (Kd.R (Kd.int .u8) 5 wc w.heap.size (fun k_ => some k_ ≠ (u199004 : Value).ownBlock) u207004 x207004_30) := ⟨by rw [← hq_]; exact (by (with_reducible repeat (first | apply Kd.R_alloc | apply Kd.R_drewN | apply Kd.R_drew)); exact HO_207004.out)⟩; have n2_ : Aside0 (wc.heap[gb189]? = some (.cells #[.bool false, .int .u32 0, .bool false, .int .i64 0, .slice none 0 0] 25 (0, 0))) := ⟨by rw [← hq_]; exact (by (with_reducible repeat (first | refine blk_drewN ?_ _ | refine blk_drew ?_ | refine blk_alloc ?_ _)); exact BK189.out)⟩; have n3_ : Aside0 (wc.heap[gb190]? = some (.cells #[.bool false, .int .u32 0, .bool false, .int .i64 0, .slice none 0 0] 25 (0, 0))) := ⟨by rw [← hq_]; exact (by (with_reducible repeat (first | refine blk_drewN ?_ _ | refine blk_drew ?_ | refine blk_alloc ?_ _)); exact BK190.out)⟩; have n4_ : Aside0 (wc.heap[gb198]? = some (.cells #[.bool false, .int .u32 x199001_5, .bool x199002_5, .int .i64 x199003_5, u199004] 25 (0, 0))) := ⟨by rw [← hq_]; exact (by (with_reducible repeat (first | refine blk_drewN ?_ _ | refine blk_drew ?_ | refine blk_alloc ?_ _)); exact BK198.out)⟩; have n5_ : Aside0 (wc.heap[gb206]? = some (.cells #[.bool x207000_30, .int .u32 x207001_30, .bool x207002_30, .int .i64 x207003_30, u207004] 25 (0, 0))) := ⟨by rw [← hq_]; exact (by (with_reducible repeat (first | refine blk_drewN ?_ _ | refine blk_drew ?_ | refine blk_alloc ?_ _)); exact BK206.out)⟩; have n6_ : Aside0 (Below w.heap.size w wc) := ⟨by rw [← hq_]; exact (by repeat (first | (with_reducible first | exact HB.out | apply below_alloc | apply pw_below_drewN | apply below_drew1 | refine below_set ?_ GE189.out | refine below_set ?_ GE190.out | refine below_set ?_ GE198.out | refine below_set ?_ GE206.out) | exact HB.out))⟩; clear HO_199004 HO_207004 BK189 BK190 BK198 BK206 HB hq_; have HO_199004 := n0_; have HO_207004 := n1_; have BK189 := n2_; have BK190 := n3_; have BK198 := n4_; have BK206 := n5_; have HB := n6_; clear n0_ n1_ n2_ n3_ n4_ n5_ n6_)); have hnb87 := NB198_189.out; have hnc87 := NB189_198.out; have hnb88 := NB198_190.out; have hnc88 := NB190_198.out; have hnb89 := NB198_206.out; have hnc89 := NB206_198.out; have hcz90_0 : wc.cell? ⟨gb198, 0, none⟩ = some (.bool false) := (blk_cell BK198.out 0).trans rfl; have hcz90_1 : wc.cell? ⟨gb198, 1, none⟩ = some (.int .u32 x199001_5) := (blk_cell BK198.out 1).trans rfl; have hcz90_2 : wc.cell? ⟨gb198, 2, none⟩ = some (.bool x199002_5) := (blk_cell BK198.out 2).trans rfl; have hcz90_3 : wc.cell? ⟨gb198, 3, none⟩ = some (.int .i64 x199003_5) := (blk_cell BK198.out 3).trans rfl; have hcz90_4 : wc.cell? ⟨gb198, 4, none⟩ = some (u199004) := (blk_cell BK198.out 4).trans rfl; have hfz90_0 := blk_frozen BK198.out 0; have hfz90_1 := blk_frozen BK198.out 1; have hfz90_2 := blk_frozen BK198.out 2; have hfz90_3 := blk_frozen BK198.out 3; have hfz90_4 := blk_frozen BK198.out 4; have hnb91 := NB206_189.out; have hnc91 := NB189_206.out; have hnb92 := NB206_190.out; have hnc92 := NB190_206.out; have hcz93_0 : wc.cell? ⟨gb206, 0, none⟩ = some (.bool x207000_30) := (blk_cell BK206.out 0).trans rfl; have hcz93_1 : wc.cell? ⟨gb206, 1, none⟩ = some (.int .u32 x207001_30) := (blk_cell BK206.out 1).trans rfl; have hcz93_2 : wc.cell? ⟨gb206, 2, none⟩ = some (.bool x207002_30) := (blk_cell BK206.out 2).trans rfl; have hcz93_3 : wc.cell? ⟨gb206, 3, none⟩ = some (.int .i64 x207003_30) := (blk_cell BK206.out 3).trans rfl; have hcz93_4 : wc.cell? ⟨gb206, 4, none⟩ = some (u207004) := (blk_cell BK206.out 4).trans rfl; have hfz93_0 := blk_frozen BK206.out 0; have hfz93_1 := blk_frozen BK206.out 1; have hfz93_2 := blk_frozen BK206.out 2; have hfz93_3 := blk_frozen BK206.out 3; have hfz93_4 := blk_frozen BK206.out 4))
                have n0_ : Aside0 (Kd.R (Kd.int .u8) 5 (((((wc.setCell ⟨gb206, 0, none⟩ (.bool true)).setCell ⟨gb206, 1, none⟩ (.int .u32 ((x199001_5 * 262144) % 4294967296))).setCell ⟨gb206, 2, none⟩ (.bool x207002_30)).setCell ⟨gb206, 3, none⟩ (.int .i64 0)).setCell ⟨gb206, 4, none⟩ (.slice none 0 0)) w.heap.size (fun k_ => some k_ ≠ (u207004 : Value).ownBlock) u199004 x199004_5) := ⟨by (with_reducible repeat (first | apply Kd.R_alloc | apply Kd.R_drewN | apply Kd.R_drew)); exact Kd.R_mono (Kd.R_far (p := ⟨gb206, 4, none⟩) (Kd.R_far (p := ⟨gb206, 3, none⟩) (Kd.R_far (p := ⟨gb206, 2, none⟩) (Kd.R_far (p := ⟨gb206, 1, none⟩) (Kd.R_far (p := ⟨gb206, 0, none⟩) (Kd.R_types HO_199004.out BK206.out (by decide)) (fun _ hk => hk.2) (.bool true)) (fun _ hk => hk.2) (.int .u32 ((x199001_5 * 262144) % 4294967296))) (fun _ hk => hk.2) (.bool x207002_30)) (fun _ hk => hk.2) (.int .i64 0)) (fun _ hk => hk.2) (.slice none 0 0)) (fun _ hk => hk.1)⟩
                have n1_ : Aside0 (Kd.R (Kd.int .u8) 5 (((((wc.setCell ⟨gb206, 0, none⟩ (.bool true)).setCell ⟨gb206, 1, none⟩ (.int .u32 ((x199001_5 * 262144) % 4294967296))).setCell ⟨gb206, 2, none⟩ (.bool x207002_30)).setCell ⟨gb206, 3, none⟩ (.int .i64 0)).setCell ⟨gb206, 4, none⟩ (.slice none 0 0)) w.heap.size (fun k_ => some k_ ≠ (u199004 : Value).ownBlock) u207004 x207004_30) := ⟨by (with_reducible repeat (first | apply Kd.R_alloc | apply Kd.R_drewN | apply Kd.R_drew)); exact Kd.R_mono (Kd.R_far (p := ⟨gb206, 4, none⟩) (Kd.R_far (p := ⟨gb206, 3, none⟩) (Kd.R_far (p := ⟨gb206, 2, none⟩) (Kd.R_far (p := ⟨gb206, 1, none⟩) (Kd.R_far (p := ⟨gb206, 0, none⟩) (Kd.R_types HO_207004.out BK206.out (by decide)) (fun _ hk => hk.2) (.bool true)) (fun _ hk => hk.2) (.int .u32 ((x199001_5 * 262144) % 4294967296))) (fun _ hk => hk.2) (.bool x207002_30)) (fun _ hk => hk.2) (.int .i64 0)) (fun _ hk => hk.2) (.slice none 0 0)) (fun _ hk => hk.1)⟩
                have n2_ : Aside0 ((((((wc.setCell ⟨gb206, 0, none⟩ (.bool true)).setCell ⟨gb206, 1, none⟩ (.int .u32 ((x199001_5 * 262144) % 4294967296))).setCell ⟨gb206, 2, none⟩ (.bool x207002_30)).setCell ⟨gb206, 3, none⟩ (.int .i64 0)).setCell ⟨gb206, 4, none⟩ (.slice none 0 0)).heap[gb189]? = some (.cells #[.bool false, .int .u32 0, .bool false, .int .i64 0, .slice none 0 0] 25 (0, 0))) := ⟨by (with_reducible repeat (first | refine blk_drewN ?_ _ | refine blk_drew ?_ | refine blk_alloc ?_ _)); refine blk_far ?_ NB189_206.out _; (with_reducible repeat (first | refine blk_drewN ?_ _ | refine blk_drew ?_ | refine blk_alloc ?_ _)); refine blk_far ?_ NB189_206.out _; (with_reducible repeat (first | refine blk_drewN ?_ _ | refine blk_drew ?_ | refine blk_alloc ?_ _)); refine blk_far ?_ NB189_206.out _; (with_reducible repeat (first | refine blk_drewN ?_ _ | refine blk_drew ?_ | refine blk_alloc ?_ _)); refine blk_far ?_ NB189_206.out _; (with_reducible repeat (first | refine blk_drewN ?_ _ | refine blk_drew ?_ | refine blk_alloc ?_ _)); refine blk_far ?_ NB189_206.out _; (with_reducible repeat (first | refine blk_drewN ?_ _ | refine blk_drew ?_ | refine blk_alloc ?_ _)); exact BK189.out⟩
                have n3_ : Aside0 ((((((wc.setCell ⟨gb206, 0, none⟩ (.bool true)).setCell ⟨gb206, 1, none⟩ (.int .u32 ((x199001_5 * 262144) % 4294967296))).setCell ⟨gb206, 2, none⟩ (.bool x207002_30)).setCell ⟨gb206, 3, none⟩ (.int .i64 0)).setCell ⟨gb206, 4, none⟩ (.slice none 0 0)).heap[gb190]? = some (.cells #[.bool false, .int .u32 0, .bool false, .int .i64 0, .slice none 0 0] 25 (0, 0))) := ⟨by (with_reducible repeat (first | refine blk_drewN ?_ _ | refine blk_drew ?_ | refine blk_alloc ?_ _)); refine blk_far ?_ NB190_206.out _; (with_reducible repeat (first | refine blk_drewN ?_ _ | refine blk_drew ?_ | refine blk_alloc ?_ _)); refine blk_far ?_ NB190_206.out _; (with_reducible repeat (first | refine blk_drewN ?_ _ | refine blk_drew ?_ | refine blk_alloc ?_ _)); refine blk_far ?_ NB190_206.out _; (with_reducible repeat (first | refine blk_drewN ?_ _ | refine blk_drew ?_ | refine blk_alloc ?_ _)); refine blk_far ?_ NB190_206.out _; (with_reducible repeat (first | refine blk_drewN ?_ _ | refine blk_drew ?_ | refine blk_alloc ?_ _)); refine blk_far ?_ NB190_206.out _; (with_reducible repeat (first | refine blk_drewN ?_ _ | refine blk_drew ?_ | refine blk_alloc ?_ _)); exact BK190.out⟩
                have n4_ : Aside0 ((((((wc.setCell ⟨gb206, 0, none⟩ (.bool true)).setCell ⟨gb206, 1, none⟩ (.int .u32 ((x199001_5 * 262144) % 4294967296))).setCell ⟨gb206, 2, none⟩ (.bool x207002_30)).setCell ⟨gb206, 3, none⟩ (.int .i64 0)).setCell ⟨gb206, 4, none⟩ (.slice none 0 0)).heap[gb198]? = some (.cells #[.bool false, .int .u32 x199001_5, .bool x199002_5, .int .i64 x199003_5, u199004] 25 (0, 0))) := ⟨by (with_reducible repeat (first | refine blk_drewN ?_ _ | refine blk_drew ?_ | refine blk_alloc ?_ _)); refine blk_far ?_ NB198_206.out _; (with_reducible repeat (first | refine blk_drewN ?_ _ | refine blk_drew ?_ | refine blk_alloc ?_ _)); refine blk_far ?_ NB198_206.out _; (with_reducible repeat (first | refine blk_drewN ?_ _ | refine blk_drew ?_ | refine blk_alloc ?_ _)); refine blk_far ?_ NB198_206.out _; (with_reducible repeat (first | refine blk_drewN ?_ _ | refine blk_drew ?_ | refine blk_alloc ?_ _)); refine blk_far ?_ NB198_206.out _; (with_reducible repeat (first | refine blk_drewN ?_ _ | refine blk_drew ?_ | refine blk_alloc ?_ _)); refine blk_far ?_ NB198_206.out _; (with_reducible repeat (first | refine blk_drewN ?_ _ | refine blk_drew ?_ | refine blk_alloc ?_ _)); exact BK198.out⟩
                have n5_ : Aside0 ((((((wc.setCell ⟨gb206, 0, none⟩ (.bool true)).setCell ⟨gb206, 1, none⟩ (.int .u32 ((x199001_5 * 262144) % 4294967296))).setCell ⟨gb206, 2, none⟩ (.bool x207002_30)).setCell ⟨gb206, 3, none⟩ (.int .i64 0)).setCell ⟨gb206, 4, none⟩ (.slice none 0 0)).heap[gb206]? = some (.cells #[.bool true, .int .u32 ((x199001_5 * 262144) % 4294967296), .bool x207002_30, .int .i64 0, .slice none 0 0] 25 (0, 0))) := ⟨by (with_reducible repeat (first | refine blk_drewN ?_ _ | refine blk_drew ?_ | refine blk_alloc ?_ _)); refine blk_put (cs := #[.bool true, .int .u32 ((x199001_5 * 262144) % 4294967296), .bool x207002_30, .int .i64 0, u207004]) ?_ 4 _ rfl; (with_reducible repeat (first | refine blk_drewN ?_ _ | refine blk_drew ?_ | refine blk_alloc ?_ _)); refine blk_put (cs := #[.bool true, .int .u32 ((x199001_5 * 262144) % 4294967296), .bool x207002_30, .int .i64 x207003_30, u207004]) ?_ 3 _ rfl; (with_reducible repeat (first | refine blk_drewN ?_ _ | refine blk_drew ?_ | refine blk_alloc ?_ _)); refine blk_put (cs := #[.bool true, .int .u32 ((x199001_5 * 262144) % 4294967296), .bool x207002_30, .int .i64 x207003_30, u207004]) ?_ 2 _ rfl; (with_reducible repeat (first | refine blk_drewN ?_ _ | refine blk_drew ?_ | refine blk_alloc ?_ _)); refine blk_put (cs := #[.bool true, .int .u32 x207001_30, .bool x207002_30, .int .i64 x207003_30, u207004]) ?_ 1 _ rfl; (with_reducible repeat (first | refine blk_drewN ?_ _ | refine blk_drew ?_ | refine blk_alloc ?_ _)); refine blk_put (cs := #[.bool x207000_30, .int .u32 x207001_30, .bool x207002_30, .int .i64 x207003_30, u207004]) ?_ 0 _ rfl; (with_reducible repeat (first | refine blk_drewN ?_ _ | refine blk_drew ?_ | refine blk_alloc ?_ _)); exact BK206.out⟩
                have n6_ : Aside0 (Below w.heap.size w (((((wc.setCell ⟨gb206, 0, none⟩ (.bool true)).setCell ⟨gb206, 1, none⟩ (.int .u32 ((x199001_5 * 262144) % 4294967296))).setCell ⟨gb206, 2, none⟩ (.bool x207002_30)).setCell ⟨gb206, 3, none⟩ (.int .i64 0)).setCell ⟨gb206, 4, none⟩ (.slice none 0 0))) := ⟨by repeat (first | (with_reducible first | exact HB.out | apply below_alloc | apply pw_below_drewN | apply below_drew1 | refine below_set ?_ GE189.out | refine below_set ?_ GE190.out | refine below_set ?_ GE198.out | refine below_set ?_ GE206.out) | exact HB.out)⟩
                (try clear HO_199004)
                (try clear HO_207004)
                (try clear BK189)
                (try clear BK190)
                (try clear BK198)
                (try clear BK206)
                (try clear HB)
                generalize (((((wc.setCell ⟨gb206, 0, none⟩ (.bool true)).setCell ⟨gb206, 1, none⟩ (.int .u32 ((x199001_5 * 262144) % 4294967296))).setCell ⟨gb206, 2, none⟩ (.bool x207002_30)).setCell ⟨gb206, 3, none⟩ (.int .i64 0)).setCell ⟨gb206, 4, none⟩ (.slice none 0 0)) = w94 at n0_ n1_ n2_ n3_ n4_ n5_ n6_ ⊢
                have HO_199004 := n0_
                have HO_207004 := n1_
                have BK189 := n2_
                have BK190 := n3_
                have BK198 := n4_
                have BK206 := n5_
                have HB := n6_
                clear n0_ n1_ n2_ n3_ n4_ n5_ n6_
                have n0_ := Aside0.mk (Kd.R_drew HO_199004.out)
                have n1_ := Aside0.mk (Kd.R_drew HO_207004.out)
                have n2_ := Aside0.mk (blk_drew BK189.out)
                have n3_ := Aside0.mk (blk_drew BK190.out)
                have n4_ := Aside0.mk (blk_drew BK198.out)
                have n5_ := Aside0.mk (blk_drew BK206.out)
                have n6_ := Aside0.mk (below_drew1 HB.out)
                clear HO_199004
                clear HO_207004
                clear BK189
                clear BK190
                clear BK198
                clear BK206
                clear HB
                have HO_199004 := n0_
                have HO_207004 := n1_
                have BK189 := n2_
                have BK190 := n3_
                have BK198 := n4_
                have BK206 := n5_
                have HB := n6_
                clear n0_ n1_ n2_ n3_ n4_ n5_ n6_
                obtain ⟨Ao100, co100, eo100⟩ := Kd.R_slice HO_199004.out
                (first | subst eo100 | (injection eo100 with f1_ f2_ f3_; have f4_ := f1_.symm; have f5_ := f3_.symm; clear f1_ f2_ f3_; subst f4_; subst f5_))
                refine start_ (n := 4) (S := fun w' => w'.cell? ⟨gb198, 0, none⟩ = some (.bool false) ∧ w'.cell? ⟨gb198, 1, none⟩ = some (.int .u32 x199001_5) ∧ w'.cell? ⟨gb198, 2, none⟩ = some (.bool x199002_5) ∧ w'.cell? ⟨gb198, 3, none⟩ = some (.int .i64 x199003_5) ∧ w'.cell? ⟨gb198, 4, none⟩ = some (.slice Ao100 x199004_5.length co100) ∧ w'.cell? ⟨gb206, 0, none⟩ = some (.bool true) ∧ w'.cell? ⟨gb206, 1, none⟩ = some (.int .u32 ((x199001_5 * 262144) % 4294967296)) ∧ w'.cell? ⟨gb206, 2, none⟩ = some (.bool x207002_30) ∧ w'.cell? ⟨gb206, 3, none⟩ = some (.int .i64 0) ∧ w'.cell? ⟨gb206, 4, none⟩ = some (.slice none 0 0)) (ds := []) #[false, false, false, false] (by kernel_rfl) rfl rfl ⟨(blk_cell BK198.out 0).trans rfl, (blk_cell BK198.out 1).trans rfl, (blk_cell BK198.out 2).trans rfl, (blk_cell BK198.out 3).trans rfl, (blk_cell BK198.out 4).trans rfl, (blk_cell BK206.out 0).trans rfl, (blk_cell BK206.out 1).trans rfl, (blk_cell BK206.out 2).trans rfl, (blk_cell BK206.out 3).trans rfl, (blk_cell BK206.out 4).trans rfl⟩ (fun hHeld => ?_)
                generalize w94.drew = w95 at HO_199004 HO_207004 BK189 BK190 BK198 BK206 HB hHeld ⊢
                refine take_ (i := 0) (N := some 70) (v := ?_) (a' := ?_) #[true, false, false, false] rfl rfl (by kernel_rfl) (fun _ _ _ h => h) (Or.inl ⟨by rfl, ?_⟩) hHeld ?_ ?_
                rotate_left
                · rintro w' ⟨s0, s1, s2, s3, s4, s5, s6, s7, s8, s9⟩
                  go_simp
                  with_reducible rfl
                rotate_left
                · simp only [Act.put, List.setIfInBounds_toArray, List.set_cons_zero, List.set_cons_succ, i64_w, i32_w]
                  rfl
                refine take_ (i := 1) (N := some 71) (v := ?_) (a' := ?_) #[true, true, false, false] rfl rfl (by kernel_rfl) (fun _ _ _ h => h) (Or.inl ⟨by rfl, ?_⟩) hHeld ?_ ?_
                rotate_left
                · rintro w' ⟨s0, s1, s2, s3, s4, s5, s6, s7, s8, s9⟩
                  go_simp
                  with_reducible rfl
                rotate_left
                · simp only [Act.put, List.setIfInBounds_toArray, List.set_cons_zero, List.set_cons_succ, i64_w, i32_w]
                  rfl
                refine one_ (i := 2) (N := none) #[true, true, true, false] rfl rfl (by kernel_rfl) (by decide) (fun K hK => ?_)
                have hs96 : w95.cell? ⟨gb189, 0, none⟩ = some (.bool false) := (blk_cell BK189.out 0).trans rfl
                have hfs96 := blk_frozen BK189.out 0
                have hns96_1 := NB190_189.out
                have hns96_2 := NB198_189.out
                have hns96_3 := NB206_189.out
                have hms96_1 := NB189_190.out
                have hms96_2 := NB189_198.out
                have hms96_3 := NB189_206.out
                have hs97 : w95.cell? ⟨gb189, 1, none⟩ = some (.int .u32 0) := (blk_cell BK189.out 1).trans rfl
                have hfs97 := blk_frozen BK189.out 1
                have hns97_1 := NB190_189.out
                have hns97_2 := NB198_189.out
                have hns97_3 := NB206_189.out
                have hms97_1 := NB189_190.out
                have hms97_2 := NB189_198.out
                have hms97_3 := NB189_206.out
                have hs98 : w95.cell? ⟨gb189, 2, none⟩ = some (.bool false) := (blk_cell BK189.out 2).trans rfl
                have hfs98 := blk_frozen BK189.out 2
                have hns98_1 := NB190_189.out
                have hns98_2 := NB198_189.out
                have hns98_3 := NB206_189.out
                have hms98_1 := NB189_190.out
                have hms98_2 := NB189_198.out
                have hms98_3 := NB189_206.out
                have hs99 : w95.cell? ⟨gb189, 3, none⟩ = some (.int .i64 0) := (blk_cell BK189.out 3).trans rfl
                have hfs99 := blk_frozen BK189.out 3
                have hns99_1 := NB190_189.out
                have hns99_2 := NB198_189.out
                have hns99_3 := NB206_189.out
                have hms99_1 := NB189_190.out
                have hms99_2 := NB189_198.out
                have hms99_3 := NB189_206.out
                have hs101 : w95.cell? ⟨gb189, 4, none⟩ = some (.slice none 0 0) := (blk_cell BK189.out 4).trans rfl
                have hfs101 := blk_frozen BK189.out 4
                have hns101_1 := NB190_189.out
                have hns101_2 := NB198_189.out
                have hns101_3 := NB206_189.out
                have hms101_1 := NB189_190.out
                have hms101_2 := NB189_198.out
                have hms101_3 := NB189_206.out
                refine skip_ (w1 := ?_) (by rfl) rfl ?_ ?_
                rotate_left
                · go_simp
                  rfl
                refine hK.out _ _ ⟨((cell_far (p := ⟨gb189, _, none⟩) NB198_189.out _).trans (((cell_far (p := ⟨gb189, _, none⟩) NB198_189.out _).trans (((cell_far (p := ⟨gb189, _, none⟩) NB198_189.out _).trans (((cell_far (p := ⟨gb189, _, none⟩) NB198_189.out _).trans (((cell_far (p := ⟨gb189, _, none⟩) NB198_189.out _).trans (hHeld.1)))))))))), ((cell_far (p := ⟨gb189, _, none⟩) NB198_189.out _).trans (((cell_far (p := ⟨gb189, _, none⟩) NB198_189.out _).trans (((cell_far (p := ⟨gb189, _, none⟩) NB198_189.out _).trans (((cell_far (p := ⟨gb189, _, none⟩) NB198_189.out _).trans (((cell_far (p := ⟨gb189, _, none⟩) NB198_189.out _).trans (hHeld.2.1)))))))))), ((cell_far (p := ⟨gb189, _, none⟩) NB198_189.out _).trans (((cell_far (p := ⟨gb189, _, none⟩) NB198_189.out _).trans (((cell_far (p := ⟨gb189, _, none⟩) NB198_189.out _).trans (((cell_far (p := ⟨gb189, _, none⟩) NB198_189.out _).trans (((cell_far (p := ⟨gb189, _, none⟩) NB198_189.out _).trans (hHeld.2.2.1)))))))))), ((cell_far (p := ⟨gb189, _, none⟩) NB198_189.out _).trans (((cell_far (p := ⟨gb189, _, none⟩) NB198_189.out _).trans (((cell_far (p := ⟨gb189, _, none⟩) NB198_189.out _).trans (((cell_far (p := ⟨gb189, _, none⟩) NB198_189.out _).trans (((cell_far (p := ⟨gb189, _, none⟩) NB198_189.out _).trans (hHeld.2.2.2.1)))))))))), ((cell_far (p := ⟨gb189, _, none⟩) NB198_189.out _).trans (((cell_far (p := ⟨gb189, _, none⟩) NB198_189.out _).trans (((cell_far (p := ⟨gb189, _, none⟩) NB198_189.out _).trans (((cell_far (p := ⟨gb189, _, none⟩) NB198_189.out _).trans (((cell_far (p := ⟨gb189, _, none⟩) NB198_189.out _).trans (hHeld.2.2.2.2.1)))))))))), ((cell_far (p := ⟨gb189, _, none⟩) NB206_189.out _).trans (((cell_far (p := ⟨gb189, _, none⟩) NB206_189.out _).trans (((cell_far (p := ⟨gb189, _, none⟩) NB206_189.out _).trans (((cell_far (p := ⟨gb189, _, none⟩) NB206_189.out _).trans (((cell_far (p := ⟨gb189, _, none⟩) NB206_189.out _).trans (hHeld.2.2.2.2.2.1)))))))))), ((cell_far (p := ⟨gb189, _, none⟩) NB206_189.out _).trans (((cell_far (p := ⟨gb189, _, none⟩) NB206_189.out _).trans (((cell_far (p := ⟨gb189, _, none⟩) NB206_189.out _).trans (((cell_far (p := ⟨gb189, _, none⟩) NB206_189.out _).trans (((cell_far (p := ⟨gb189, _, none⟩) NB206_189.out _).trans (hHeld.2.2.2.2.2.2.1)))))))))), ((cell_far (p := ⟨gb189, _, none⟩) NB206_189.out _).trans (((cell_far (p := ⟨gb189, _, none⟩) NB206_189.out _).trans (((cell_far (p := ⟨gb189, _, none⟩) NB206_189.out _).trans (((cell_far (p := ⟨gb189, _, none⟩) NB206_189.out _).trans (((cell_far (p := ⟨gb189, _, none⟩) NB206_189.out _).trans (hHeld.2.2.2.2.2.2.2.1)))))))))), ((cell_far (p := ⟨gb189, _, none⟩) NB206_189.out _).trans (((cell_far (p := ⟨gb189, _, none⟩) NB206_189.out _).trans (((cell_far (p := ⟨gb189, _, none⟩) NB206_189.out _).trans (((cell_far (p := ⟨gb189, _, none⟩) NB206_189.out _).trans (((cell_far (p := ⟨gb189, _, none⟩) NB206_189.out _).trans (hHeld.2.2.2.2.2.2.2.2.1)))))))))), ((cell_far (p := ⟨gb189, _, none⟩) NB206_189.out _).trans (((cell_far (p := ⟨gb189, _, none⟩) NB206_189.out _).trans (((cell_far (p := ⟨gb189, _, none⟩) NB206_189.out _).trans (((cell_far (p := ⟨gb189, _, none⟩) NB206_189.out _).trans (((cell_far (p := ⟨gb189, _, none⟩) NB206_189.out _).trans (hHeld.2.2.2.2.2.2.2.2.2))))))))))⟩ (fun hHeld => ?_)
                clear hK K
                refine one_ (i := 3) (N := none) #[true, true, true, true] rfl rfl (by kernel_rfl) (by decide) (fun K hK => ?_)
                have hs102 : w95.cell? ⟨gb190, 0, none⟩ = some (.bool false) := (blk_cell BK190.out 0).trans rfl
                have hfs102 := blk_frozen BK190.out 0
                have hns102_0 := NB189_190.out
                have hns102_2 := NB198_190.out
                have hns102_3 := NB206_190.out
                have hms102_0 := NB190_189.out
                have hms102_2 := NB190_198.out
                have hms102_3 := NB190_206.out
                have hs103 : w95.cell? ⟨gb190, 1, none⟩ = some (.int .u32 0) := (blk_cell BK190.out 1).trans rfl
                have hfs103 := blk_frozen BK190.out 1
                have hns103_0 := NB189_190.out
                have hns103_2 := NB198_190.out
                have hns103_3 := NB206_190.out
                have hms103_0 := NB190_189.out
                have hms103_2 := NB190_198.out
                have hms103_3 := NB190_206.out
                have hs104 : w95.cell? ⟨gb190, 2, none⟩ = some (.bool false) := (blk_cell BK190.out 2).trans rfl
                have hfs104 := blk_frozen BK190.out 2
                have hns104_0 := NB189_190.out
                have hns104_2 := NB198_190.out
                have hns104_3 := NB206_190.out
                have hms104_0 := NB190_189.out
                have hms104_2 := NB190_198.out
                have hms104_3 := NB190_206.out
                have hs105 : w95.cell? ⟨gb190, 3, none⟩ = some (.int .i64 0) := (blk_cell BK190.out 3).trans rfl
                have hfs105 := blk_frozen BK190.out 3
                have hns105_0 := NB189_190.out
                have hns105_2 := NB198_190.out
                have hns105_3 := NB206_190.out
                have hms105_0 := NB190_189.out
                have hms105_2 := NB190_198.out
                have hms105_3 := NB190_206.out
                have hs106 : w95.cell? ⟨gb190, 4, none⟩ = some (.slice none 0 0) := (blk_cell BK190.out 4).trans rfl
                have hfs106 := blk_frozen BK190.out 4
                have hns106_0 := NB189_190.out
                have hns106_2 := NB198_190.out
                have hns106_3 := NB206_190.out
                have hms106_0 := NB190_189.out
                have hms106_2 := NB190_198.out
                have hms106_3 := NB190_206.out
                refine skip_ (w1 := ?_) (by rfl) rfl ?_ ?_
                rotate_left
                · go_simp
                  rfl
                refine hK.out _ _ ⟨((cell_far (p := ⟨gb190, _, none⟩) NB198_190.out _).trans (((cell_far (p := ⟨gb190, _, none⟩) NB198_190.out _).trans (((cell_far (p := ⟨gb190, _, none⟩) NB198_190.out _).trans (((cell_far (p := ⟨gb190, _, none⟩) NB198_190.out _).trans (((cell_far (p := ⟨gb190, _, none⟩) NB198_190.out _).trans (hHeld.1)))))))))), ((cell_far (p := ⟨gb190, _, none⟩) NB198_190.out _).trans (((cell_far (p := ⟨gb190, _, none⟩) NB198_190.out _).trans (((cell_far (p := ⟨gb190, _, none⟩) NB198_190.out _).trans (((cell_far (p := ⟨gb190, _, none⟩) NB198_190.out _).trans (((cell_far (p := ⟨gb190, _, none⟩) NB198_190.out _).trans (hHeld.2.1)))))))))), ((cell_far (p := ⟨gb190, _, none⟩) NB198_190.out _).trans (((cell_far (p := ⟨gb190, _, none⟩) NB198_190.out _).trans (((cell_far (p := ⟨gb190, _, none⟩) NB198_190.out _).trans (((cell_far (p := ⟨gb190, _, none⟩) NB198_190.out _).trans (((cell_far (p := ⟨gb190, _, none⟩) NB198_190.out _).trans (hHeld.2.2.1)))))))))), ((cell_far (p := ⟨gb190, _, none⟩) NB198_190.out _).trans (((cell_far (p := ⟨gb190, _, none⟩) NB198_190.out _).trans (((cell_far (p := ⟨gb190, _, none⟩) NB198_190.out _).trans (((cell_far (p := ⟨gb190, _, none⟩) NB198_190.out _).trans (((cell_far (p := ⟨gb190, _, none⟩) NB198_190.out _).trans (hHeld.2.2.2.1)))))))))), ((cell_far (p := ⟨gb190, _, none⟩) NB198_190.out _).trans (((cell_far (p := ⟨gb190, _, none⟩) NB198_190.out _).trans (((cell_far (p := ⟨gb190, _, none⟩) NB198_190.out _).trans (((cell_far (p := ⟨gb190, _, none⟩) NB198_190.out _).trans (((cell_far (p := ⟨gb190, _, none⟩) NB198_190.out _).trans (hHeld.2.2.2.2.1)))))))))), ((cell_far (p := ⟨gb190, _, none⟩) NB206_190.out _).trans (((cell_far (p := ⟨gb190, _, none⟩) NB206_190.out _).trans (((cell_far (p := ⟨gb190, _, none⟩) NB206_190.out _).trans (((cell_far (p := ⟨gb190, _, none⟩) NB206_190.out _).trans (((cell_far (p := ⟨gb190, _, none⟩) NB206_190.out _).trans (hHeld.2.2.2.2.2.1)))))))))), ((cell_far (p := ⟨gb190, _, none⟩) NB206_190.out _).trans (((cell_far (p := ⟨gb190, _, none⟩) NB206_190.out _).trans (((cell_far (p := ⟨gb190, _, none⟩) NB206_190.out _).trans (((cell_far (p := ⟨gb190, _, none⟩) NB206_190.out _).trans (((cell_far (p := ⟨gb190, _, none⟩) NB206_190.out _).trans (hHeld.2.2.2.2.2.2.1)))))))))), ((cell_far (p := ⟨gb190, _, none⟩) NB206_190.out _).trans (((cell_far (p := ⟨gb190, _, none⟩) NB206_190.out _).trans (((cell_far (p := ⟨gb190, _, none⟩) NB206_190.out _).trans (((cell_far (p := ⟨gb190, _, none⟩) NB206_190.out _).trans (((cell_far (p := ⟨gb190, _, none⟩) NB206_190.out _).trans (hHeld.2.2.2.2.2.2.2.1)))))))))), ((cell_far (p := ⟨gb190, _, none⟩) NB206_190.out _).trans (((cell_far (p := ⟨gb190, _, none⟩) NB206_190.out _).trans (((cell_far (p := ⟨gb190, _, none⟩) NB206_190.out _).trans (((cell_far (p := ⟨gb190, _, none⟩) NB206_190.out _).trans (((cell_far (p := ⟨gb190, _, none⟩) NB206_190.out _).trans (hHeld.2.2.2.2.2.2.2.2.1)))))))))), ((cell_far (p := ⟨gb190, _, none⟩) NB206_190.out _).trans (((cell_far (p := ⟨gb190, _, none⟩) NB206_190.out _).trans (((cell_far (p := ⟨gb190, _, none⟩) NB206_190.out _).trans (((cell_far (p := ⟨gb190, _, none⟩) NB206_190.out _).trans (((cell_far (p := ⟨gb190, _, none⟩) NB206_190.out _).trans (hHeld.2.2.2.2.2.2.2.2.2))))))))))⟩ (fun hHeld => ?_)
                clear hK K
                refine done_ (by kernel_rfl) ?_
                try go_wp2
                refine bodyPost_ret (results_cc rfl _ _ gb189 gb190 25 25 #[.bool false, .int .u32 x199001_5, .bool x199002_5, .int .i64 x199003_5, .slice Ao100 x199004_5.length co100] #[.bool true, .int .u32 ((x199001_5 * 262144) % 4294967296), .bool x207002_30, .int .i64 0, .slice none 0 0] (0, 0) (0, 0) _ _ rfl (by (with_reducible repeat (first | refine blk_drewN ?_ _ | refine blk_drew ?_ | refine blk_alloc ?_ _)); refine blk_far ?_ NB189_190.out _; (with_reducible repeat (first | refine blk_drewN ?_ _ | refine blk_drew ?_ | refine blk_alloc ?_ _)); refine blk_far ?_ NB189_190.out _; (with_reducible repeat (first | refine blk_drewN ?_ _ | refine blk_drew ?_ | refine blk_alloc ?_ _)); refine blk_far ?_ NB189_190.out _; (with_reducible repeat (first | refine blk_drewN ?_ _ | refine blk_drew ?_ | refine blk_alloc ?_ _)); refine blk_far ?_ NB189_190.out _; (with_reducible repeat (first | refine blk_drewN ?_ _ | refine blk_drew ?_ | refine blk_alloc ?_ _)); refine blk_far ?_ NB189_190.out _; (with_reducible repeat (first | refine blk_drewN ?_ _ | refine blk_drew ?_ | refine blk_alloc ?_ _)); refine blk_put (cs := #[.bool false, .int .u32 x199001_5, .bool x199002_5, .int .i64 x199003_5, .slice none 0 0]) ?_ 4 _ rfl; (with_reducible repeat (first | refine blk_drewN ?_ _ | refine blk_drew ?_ | refine blk_alloc ?_ _)); refine blk_put (cs := #[.bool false, .int .u32 x199001_5, .bool x199002_5, .int .i64 0, .slice none 0 0]) ?_ 3 _ rfl; (with_reducible repeat (first | refine blk_drewN ?_ _ | refine blk_drew ?_ | refine blk_alloc ?_ _)); refine blk_put (cs := #[.bool false, .int .u32 x199001_5, .bool false, .int .i64 0, .slice none 0 0]) ?_ 2 _ rfl; (with_reducible repeat (first | refine blk_drewN ?_ _ | refine blk_drew ?_ | refine blk_alloc ?_ _)); refine blk_put (cs := #[.bool false, .int .u32 0, .bool false, .int .i64 0, .slice none 0 0]) ?_ 1 _ rfl; (with_reducible repeat (first | refine blk_drewN ?_ _ | refine blk_drew ?_ | refine blk_alloc ?_ _)); refine blk_put (cs := #[.bool false, .int .u32 0, .bool false, .int .i64 0, .slice none 0 0]) ?_ 0 _ rfl; (with_reducible repeat (first | refine blk_drewN ?_ _ | refine blk_drew ?_ | refine blk_alloc ?_ _)); exact BK189.out) Try.underlying25 rfl (by kernel_rfl) rfl (by (with_reducible repeat (first | refine blk_drewN ?_ _ | refine blk_drew ?_ | refine blk_alloc ?_ _)); refine blk_put (cs := #[.bool true, .int .u32 ((x199001_5 * 262144) % 4294967296), .bool x207002_30, .int .i64 0, .slice none 0 0]) ?_ 4 _ rfl; (with_reducible repeat (first | refine blk_drewN ?_ _ | refine blk_drew ?_ | refine blk_alloc ?_ _)); refine blk_put (cs := #[.bool true, .int .u32 ((x199001_5 * 262144) % 4294967296), .bool x207002_30, .int .i64 0, .slice none 0 0]) ?_ 3 _ rfl; (with_reducible repeat (first | refine blk_drewN ?_ _ | refine blk_drew ?_ | refine blk_alloc ?_ _)); refine blk_put (cs := #[.bool true, .int .u32 ((x199001_5 * 262144) % 4294967296), .bool false, .int .i64 0, .slice none 0 0]) ?_ 2 _ rfl; (with_reducible repeat (first | refine blk_drewN ?_ _ | refine blk_drew ?_ | refine blk_alloc ?_ _)); refine blk_put (cs := #[.bool true, .int .u32 0, .bool false, .int .i64 0, .slice none 0 0]) ?_ 1 _ rfl; (with_reducible repeat (first | refine blk_drewN ?_ _ | refine blk_drew ?_ | refine blk_alloc ?_ _)); refine blk_put (cs := #[.bool false, .int .u32 0, .bool false, .int .i64 0, .slice none 0 0]) ?_ 0 _ rfl; (with_reducible repeat (first | refine blk_drewN ?_ _ | refine blk_drew ?_ | refine blk_alloc ?_ _)); refine blk_far ?_ NB190_189.out _; (with_reducible repeat (first | refine blk_drewN ?_ _ | refine blk_drew ?_ | refine blk_alloc ?_ _)); refine blk_far ?_ NB190_189.out _; (with_reducible repeat (first | refine blk_drewN ?_ _ | refine blk_drew ?_ | refine blk_alloc ?_ _)); refine blk_far ?_ NB190_189.out _; (with_reducible repeat (first | refine blk_drewN ?_ _ | refine blk_drew ?_ | refine blk_alloc ?_ _)); refine blk_far ?_ NB190_189.out _; (with_reducible repeat (first | refine blk_drewN ?_ _ | refine blk_drew ?_ | refine blk_alloc ?_ _)); refine blk_far ?_ NB190_189.out _; (with_reducible repeat (first | refine blk_drewN ?_ _ | refine blk_drew ?_ | refine blk_alloc ?_ _)); exact BK190.out) Try.underlying25 rfl (by kernel_rfl)) rfl ?_
                exact ⟨_, _, by first | rfl | (simp [errW_none, errW_some] <;> rfl) | (simp [*, errW_none, errW_some] <;> rfl), by (with_reducible repeat (first | apply Kd.R_alloc | apply Kd.R_drewN | apply Kd.R_drew)); exact Kd.R_mono (Kd.R_far (p := ⟨gb190, 4, none⟩) (Kd.R_far (p := ⟨gb190, 3, none⟩) (Kd.R_far (p := ⟨gb190, 2, none⟩) (Kd.R_far (p := ⟨gb190, 1, none⟩) (Kd.R_far (p := ⟨gb190, 0, none⟩) (Kd.R_far (p := ⟨gb189, 4, none⟩) (Kd.R_far (p := ⟨gb189, 3, none⟩) (Kd.R_far (p := ⟨gb189, 2, none⟩) (Kd.R_far (p := ⟨gb189, 1, none⟩) (Kd.R_far (p := ⟨gb189, 0, none⟩) (Kd.R_types (Kd.R_types HO_199004.out BK189.out (by decide)) BK190.out (by decide)) (fun _ hk => hk.1.2) (.bool false)) (fun _ hk => hk.1.2) (.int .u32 x199001_5)) (fun _ hk => hk.1.2) (.bool x199002_5)) (fun _ hk => hk.1.2) (.int .i64 x199003_5)) (fun _ hk => hk.1.2) (.slice Ao100 x199004_5.length co100)) (fun _ hk => hk.2) (.bool true)) (fun _ hk => hk.2) (.int .u32 ((x199001_5 * 262144) % 4294967296))) (fun _ hk => hk.2) (.bool x207002_30)) (fun _ hk => hk.2) (.int .i64 0)) (fun _ hk => hk.2) (.slice none 0 0)) (fun _ hk => (by simp [Value.ownBlock])), by first | exact Kd.R_nil _ _ _ _ _ | exact Kd.N_nil _ _ _ _ _ | exact Kd.V_nil _ _ _ _ _ | exact Kd.Q_nil _ _ _ _ _ | exact Kd.S_nil _ _ _ _ _, by repeat (first | (with_reducible first | exact HB.out | apply below_alloc | apply pw_below_drewN | apply below_drew1 | refine below_set ?_ GE189.out | refine below_set ?_ GE190.out | refine below_set ?_ GE198.out | refine below_set ?_ GE206.out) | exact HB.out)⟩
            · rw [if_neg c65] at H
              have c65b0 : ((Int.tmod t211 4) == 1) = false := beq_eq_false_iff_ne.mpr c65
              have c65b1 : ((Int.tmod t211 4) != 1) = true := bne_iff_ne.mpr c65
              by_cases c107 : (Int.tmod t211 4) = 2
              · rw [if_pos c107] at H
                have c107b0 : ((Int.tmod t211 4) == 2) = true := beq_iff_eq.mpr c107
                have c107b1 : ((Int.tmod t211 4) != 2) = false := bne_eq_false_iff_eq.mpr c107
                clear c107
                replace H := Option.bind_eq_some_iff.mp H
                obtain ⟨t212, A1080, H⟩ := H
                replace H : (if 0 ≤ (IntKind.u64.wrap (Int.tmod t212 11)) then (some (x199000_5, x199001_5, x199002_5, x199003_5, x199004_5, x199000_5, Go.bits .xor .u32 x199001_5 (shl .u32 1 (IntKind.u64.wrap (Int.tmod t212 11))), x199002_5, 0, ([] : List Int))) else (none)) = some (r1, r2, r3, r4, r5, r6, r7, r8, r9, r10) := H
                have A108 := Aside0.mk A1080
                clear A1080
                obtain ⟨ji109, hji109⟩ : ∃ j_ : Int, (IntKind.u64.wrap (Int.tmod t212 11)) = j_ := ⟨_, rfl⟩
                replace H : (if 0 ≤ (ji109) then (some (x199000_5, x199001_5, x199002_5, x199003_5, x199004_5, x199000_5, Go.bits .xor .u32 x199001_5 (shl .u32 1 (ji109)), x199002_5, 0, ([] : List Int))) else (none)) = some (r1, r2, r3, r4, r5, r6, r7, r8, r9, r10) := by first | (rw [hji109] at H; exact H) | (simp only [hji109] at H ⊢; exact H)
                (try rw [hji109] at A43)
                (try rw [hji109] at A108)
                by_cases c110 : 0 ≤ (ji109)
                · rw [if_pos c110] at H
                  have c110b0 := eq_true c110
                  have c110b1 : decide (0 ≤ (ji109)) = true := decide_eq_true c110
                  clear c110
                  obtain ⟨ji111, hji111⟩ : ∃ j_ : Int, (shl .u32 1 (ji109)) = j_ := ⟨_, rfl⟩
                  replace H : (some (x199000_5, x199001_5, x199002_5, x199003_5, x199004_5, x199000_5, Go.bits .xor .u32 x199001_5 (ji111), x199002_5, 0, ([] : List Int))) = some (r1, r2, r3, r4, r5, r6, r7, r8, r9, r10) := by first | (rw [hji111] at H; exact H) | (simp only [hji111] at H ⊢; exact H)
                  (try rw [hji111] at A43)
                  (try rw [hji111] at A108)
                  have hji111_ : (IntKind.u32.wrap (1 * 2 ^ min (ji109).toNat 32)) = ji111 := hji111
                  have hji111z : (ji109) ≤ 32 → (IntKind.u32.wrap (1 * 2 ^ (ji109).toNat)) = ji111 := shl_small hji111
                  have hji111u : (IntKind.u32.wrap (2 ^ min (ji109).toNat 32)) = ji111 := by have h_ := hji111_; rw [Int.one_mul] at h_; exact h_
                  have hji111v : (ji109) ≤ 32 → (IntKind.u32.wrap (2 ^ (ji109).toNat)) = ji111 := fun hle_ => by have h_ := hji111z hle_; rw [Int.one_mul] at h_; exact h_
                  simp only [Option.some.injEq, Prod.mk.injEq] at H
                  obtain ⟨rfl, rfl, rfl, rfl, rfl, rfl, rfl, rfl, rfl, rfl⟩ := H
                  try go_wp2_with (first | ((with_reducible refine gate_callee (f := 22) rfl ?_); refine goesL_ (some 27) rfl rfl Try.func22 (by kernel_rfl) rfl #[.slice A1 l1.length c1, .int .i64 0] rfl (by (try simp only [List.map_toArray, List.map_cons, List.map_nil]); first | done | rfl | (simp only [List.length_drop, List.length_take]; rfl)) ?_; (with_reducible refine (laws_wByte.calls _ _ l1 0 t211 _ ?side1 ?side2 A43.out).mono ?_); (case side1 => repeat (first | exact (Kd.C_below HR1.out HB.out) | (with_reducible refine Kd.C_alloc ?_ _) | (with_reducible refine Kd.C_drewN ?_ _) | (with_reducible refine Kd.C_drew ?_))); (case side2 => exact HC1.out); rintro e w' ⟨rfl, ⟨nd, rfl⟩⟩; refine ⟨_, rfl, ?_⟩; (try (rw [drewN_self wc]; generalize hq_ : World.drewN wc _ = wc; have n0_ : Aside0 (Kd.R (Kd.int .u8) 5 wc w.heap.size (fun k_ => some k_ ≠ (u207004 : Value).ownBlock) u199004 x199004_5) := ⟨by rw [← hq_]; exact (by (with_reducible repeat (first | apply Kd.R_alloc | apply Kd.R_drewN | apply Kd.R_drew)); exact HO_199004.out)⟩; have n1_ : Aside0 (Kd.R (Kd.int .u8) 5 wc w.heap.size (fun k_ => some k_ ≠ (u199004 : Value).ownBlock) u207004 x207004_30) := ⟨by rw [← hq_]; exact (by (with_reducible repeat (first | apply Kd.R_alloc | apply Kd.R_drewN | apply Kd.R_drew)); exact HO_207004.out)⟩; have n2_ : Aside0 (wc.heap[gb189]? = some (.cells #[.bool false, .int .u32 0, .bool false, .int .i64 0, .slice none 0 0] 25 (0, 0))) := ⟨by rw [← hq_]; exact (by (with_reducible repeat (first | refine blk_drewN ?_ _ | refine blk_drew ?_ | refine blk_alloc ?_ _)); exact BK189.out)⟩; have n3_ : Aside0 (wc.heap[gb190]? = some (.cells #[.bool false, .int .u32 0, .bool false, .int .i64 0, .slice none 0 0] 25 (0, 0))) := ⟨by rw [← hq_]; exact (by (with_reducible repeat (first | refine blk_drewN ?_ _ | refine blk_drew ?_ | refine blk_alloc ?_ _)); exact BK190.out)⟩; have n4_ : Aside0 (wc.heap[gb198]? = some (.cells #[.bool x199000_5, .int .u32 x199001_5, .bool x199002_5, .int .i64 x199003_5, u199004] 25 (0, 0))) := ⟨by rw [← hq_]; exact (by (with_reducible repeat (first | refine blk_drewN ?_ _ | refine blk_drew ?_ | refine blk_alloc ?_ _)); exact BK198.out)⟩; have n5_ : Aside0 (wc.heap[gb206]? = some (.cells #[.bool x207000_30, .int .u32 x207001_30, .bool x207002_30, .int .i64 x207003_30, u207004] 25 (0, 0))) := ⟨by rw [← hq_]; exact (by (with_reducible repeat (first | refine blk_drewN ?_ _ | refine blk_drew ?_ | refine blk_alloc ?_ _)); exact BK206.out)⟩; have n6_ : Aside0 (Below w.heap.size w wc) := ⟨by rw [← hq_]; exact (by repeat (first | (with_reducible first | exact HB.out | apply below_alloc | apply pw_below_drewN | apply below_drew1 | refine below_set ?_ GE189.out | refine below_set ?_ GE190.out | refine below_set ?_ GE198.out | refine below_set ?_ GE206.out) | exact HB.out))⟩; clear HO_199004 HO_207004 BK189 BK190 BK198 BK206 HB hq_; have HO_199004 := n0_; have HO_207004 := n1_; have BK189 := n2_; have BK190 := n3_; have BK198 := n4_; have BK206 := n5_; have HB := n6_; clear n0_ n1_ n2_ n3_ n4_ n5_ n6_))))
                  have n0_ := Aside0.mk (Kd.R_drew HO_199004.out)
                  have n1_ := Aside0.mk (Kd.R_drew HO_207004.out)
                  have n2_ := Aside0.mk (blk_drew BK189.out)
                  have n3_ := Aside0.mk (blk_drew BK190.out)
                  have n4_ := Aside0.mk (blk_drew BK198.out)
                  have n5_ := Aside0.mk (blk_drew BK206.out)
                  have n6_ := Aside0.mk (below_drew1 HB.out)
                  clear HO_199004
                  clear HO_207004
                  clear BK189
                  clear BK190
                  clear BK198
                  clear BK206
                  clear HB
                  have HO_199004 := n0_
                  have HO_207004 := n1_
                  have BK189 := n2_
                  have BK190 := n3_
                  have BK198 := n4_
                  have BK206 := n5_
                  have HB := n6_
                  clear n0_ n1_ n2_ n3_ n4_ n5_ n6_
                  refine start_ (n := 14) (S := fun w' => w'.cell? ⟨gb198, 0, none⟩ = some (.bool x199000_5) ∧ w'.cell? ⟨gb198, 1, none⟩ = some (.int .u32 x199001_5) ∧ w'.cell? ⟨gb198, 2, none⟩ = some (.bool x199002_5) ∧ w'.cell? ⟨gb198, 3, none⟩ = some (.int .i64 x199003_5) ∧ w'.cell? ⟨gb198, 4, none⟩ = some (u199004)) (ds := []) #[false, false, false, false, false, false, false, false, false, false, false, false, false, false] (by kernel_rfl) rfl rfl ⟨(blk_cell BK198.out 0).trans rfl, (blk_cell BK198.out 1).trans rfl, (blk_cell BK198.out 2).trans rfl, (blk_cell BK198.out 3).trans rfl, (blk_cell BK198.out 4).trans rfl⟩ (fun hHeld => ?_); refine with_tabW laws_wPair.tab15 laws_wPair.bits15 (fun HT_ HW_ => ?_)
                  generalize wc.drew = w112 at HO_199004 HO_207004 BK189 BK190 BK198 BK206 HB hHeld ⊢
                  refine pure_ (i := 0) (N := some 57) (v := ?_) (a' := ?_) #[true, false, false, false, false, false, false, false, false, false, false, false, false, false] rfl rfl (any_of HT_.out (by kernel_rfl)) (fun _ _ _ h => h) (Or.inl ⟨by rfl, ?_⟩) ?_ ?_
                  rotate_left
                  · intro w'
                    go_simp
                    with_reducible rfl
                  rotate_left
                  · simp only [Act.put, List.setIfInBounds_toArray, List.set_cons_zero, List.set_cons_succ, i64_w, i32_w]
                    rfl
                  refine pure_ (i := 2) (N := some 59) (v := ?_) (a' := ?_) #[true, false, true, false, false, false, false, false, false, false, false, false, false, false] rfl rfl (any_of HT_.out (by kernel_rfl)) (fun _ _ _ h => h) (Or.inl ⟨by rfl, ?_⟩) ?_ ?_
                  rotate_left
                  · intro w'
                    go_simp
                    with_reducible rfl
                  rotate_left
                  · simp only [Act.put, List.setIfInBounds_toArray, List.set_cons_zero, List.set_cons_succ, i64_w, i32_w]
                    rfl
                  refine pure_ (i := 4) (N := some 61) (v := ?_) (a' := ?_) #[true, false, true, false, true, false, false, false, false, false, false, false, false, false] rfl rfl (any_of HT_.out (by kernel_rfl)) (fun _ _ _ h => h) (Or.inl ⟨by rfl, ?_⟩) ?_ ?_
                  rotate_left
                  · intro w'
                    go_simp
                    with_reducible rfl
                  rotate_left
                  · simp only [Act.put, List.setIfInBounds_toArray, List.set_cons_zero, List.set_cons_succ, i64_w, i32_w]
                    rfl
                  refine pure_ (i := 10) (N := some 67) (v := ?_) (a' := ?_) #[true, false, true, false, true, false, false, false, false, false, true, false, false, false] rfl rfl (any_of HT_.out (by kernel_rfl)) (fun _ _ _ h => h) (Or.inl ⟨by rfl, ?_⟩) ?_ ?_
                  rotate_left
                  · intro w'
                    go_simp
                    with_reducible rfl
                  rotate_left
                  · simp only [Act.put, List.setIfInBounds_toArray, List.set_cons_zero, List.set_cons_succ, i64_w, i32_w]
                    rfl
                  refine take_ (i := 1) (N := some 58) (v := ?_) (a' := ?_) #[true, true, true, false, true, false, false, false, false, false, true, false, false, false] rfl rfl (take_ofW HT_.out HW_.out (by kernel_rfl)) (fun _ _ _ h => h) (Or.inl ⟨by rfl, ?_⟩) hHeld ?_ ?_
                  rotate_left
                  · rintro w' ⟨s0, s1, s2, s3, s4⟩
                    go_simp
                    with_reducible rfl
                  rotate_left
                  · simp only [Act.put, List.setIfInBounds_toArray, List.set_cons_zero, List.set_cons_succ, i64_w, i32_w]
                    rfl
                  refine take_ (i := 3) (N := some 60) (v := ?_) (a' := ?_) #[true, true, true, true, true, false, false, false, false, false, true, false, false, false] rfl rfl (take_ofW HT_.out HW_.out (by kernel_rfl)) (fun _ _ _ h => h) (Or.inl ⟨by rfl, ?_⟩) hHeld ?_ ?_
                  rotate_left
                  · rintro w' ⟨s0, s1, s2, s3, s4⟩
                    go_simp
                    with_reducible rfl
                  rotate_left
                  · simp only [Act.put, List.setIfInBounds_toArray, List.set_cons_zero, List.set_cons_succ, i64_w, i32_w]
                    rfl
                  refine take_ (i := 11) (N := some 68) (v := ?_) (a' := ?_) #[true, true, true, true, true, false, false, false, false, false, true, true, false, false] rfl rfl (take_ofW HT_.out HW_.out (by kernel_rfl)) (fun _ _ _ h => h) (Or.inl ⟨by rfl, ?_⟩) hHeld ?_ ?_
                  rotate_left
                  · rintro w' ⟨s0, s1, s2, s3, s4⟩
                    go_simp
                    with_reducible rfl
                  rotate_left
                  · simp only [Act.put, List.setIfInBounds_toArray, List.set_cons_zero, List.set_cons_succ, i64_w, i32_w]
                    rfl
                  refine one_ (i := 5) (N := some 62) #[true, true, true, true, true, true, false, false, false, false, true, true, false, false] rfl rfl (one_of HT_.out (by kernel_rfl)) (by decide) (fun K hK => ?_)
                  refine goes_ Try.func22 (by kernel_rfl) rfl #[.slice A1 l1.length c1, .int .i64 1] (by rfl) rfl rfl (by (try simp only [List.map_toArray, List.map_cons, List.map_nil]); first | done | rfl | (simp only [List.length_drop, List.length_take]; rfl)) ?_
                  with_reducible refine (laws_wByte.calls _ _ l1 1 t212 _ ?side1 ?side2 A108.out).mono ?_
                  (case side1 => repeat (first | exact (Kd.C_below HR1.out HB.out) | (with_reducible refine Kd.C_alloc ?_ _) | (with_reducible refine Kd.C_drewN ?_ _) | (with_reducible refine Kd.C_drew ?_)))
                  (case side2 => exact HC1.out)
                  rintro e w' ⟨rfl, ⟨nd, rfl⟩⟩
                  refine ⟨_, rfl, ?_⟩
                  refine hK.out _ _ ⟨(blk_cell BK198.out 0).trans rfl, (blk_cell BK198.out 1).trans rfl, (blk_cell BK198.out 2).trans rfl, (blk_cell BK198.out 3).trans rfl, (blk_cell BK198.out 4).trans rfl⟩ (fun hHeld => ?_)
                  clear hK K
                  refine norm_ (a' := ?_) ?_ ?_
                  rotate_left
                  · show Act.put _ (some 62) _ = _
                    simp only [Act.put, List.setIfInBounds_toArray, List.set_cons_zero, List.set_cons_succ, i64_w, i32_w]
                    rfl
                  refine pure_ (i := 6) (N := some 63) (v := ?_) (a' := ?_) #[true, true, true, true, true, true, true, false, false, false, true, true, false, false] rfl rfl (any_of HT_.out (by kernel_rfl)) (fun _ _ _ h => h) (Or.inl ⟨by rfl, ?_⟩) ?_ ?_
                  rotate_left
                  · intro w'
                    go_simp
                    with_reducible rfl
                  rotate_left
                  · simp only [Act.put, List.setIfInBounds_toArray, List.set_cons_zero, List.set_cons_succ, i64_w, i32_w]
                    rfl
                  refine pure_ (i := 7) (N := some 64) (v := ?_) (a' := ?_) #[true, true, true, true, true, true, true, true, false, false, true, true, false, false] rfl rfl (any_of HT_.out (by kernel_rfl)) (fun _ _ _ h => h) (Or.inl ⟨by rfl, ?_⟩) ?_ ?_
                  rotate_left
                  · intro w'
                    go_simp
                    with_reducible rfl
                  rotate_left
                  · simp only [Act.put, List.setIfInBounds_toArray, List.set_cons_zero, List.set_cons_succ, i64_w, i32_w]
                    rfl
                  refine pure_ (i := 8) (N := some 65) (v := ?_) (a' := ?_) #[true, true, true, true, true, true, true, true, true, false, true, true, false, false] rfl rfl (any_of HT_.out (by kernel_rfl)) (fun _ _ _ h => h) (Or.inl ⟨by rfl, ?_⟩) ?_ ?_
                  rotate_left
                  · intro w'
                    go_simp
                    with_reducible rfl
                  rotate_left
                  · simp only [Act.put, List.setIfInBounds_toArray, List.set_cons_zero, List.set_cons_succ, i64_w, i32_w]
                    rfl
                  refine pure_ (i := 9) (N := some 66) (v := ?_) (a' := ?_) #[true, true, true, true, true, true, true, true, true, true, true, true, false, false] rfl rfl (any_of HT_.out (by kernel_rfl)) (fun _ _ _ h => h) (Or.inl ⟨by rfl, ?_⟩) ?_ ?_
                  rotate_left
                  · intro w'
                    go_simp
                    with_reducible rfl
                  rotate_left
                  · simp only [Act.put, List.setIfInBounds_toArray, List.set_cons_zero, List.set_cons_succ, i64_w, i32_w]
                    rfl
                  refine pure_ (i := 12) (N := some 69) (v := ?_) (a' := ?_) #[true, true, true, true, true, true, true, true, true, true, true, true, true, false] rfl rfl (any_of HT_.out (by kernel_rfl)) (fun _ _ _ h => h) (Or.inl ⟨by rfl, ?_⟩) ?_ ?_
                  rotate_left
                  · intro w'
                    go_simp
                    with_reducible rfl
                  rotate_left
                  · simp only [Act.put, List.setIfInBounds_toArray, List.set_cons_zero, List.set_cons_succ, i64_w, i32_w]
                    rfl
                  refine one_ (i := 13) (N := none) #[true, true, true, true, true, true, true, true, true, true, true, true, true, true] rfl rfl (one_of HT_.out (by kernel_rfl)) (by decide) (fun K hK => ?_)
                  have hs113 : w112.cell? ⟨gb206, 0, none⟩ = some (.bool x207000_30) := (blk_cell BK206.out 0).trans rfl
                  have hfs113 := blk_frozen BK206.out 0
                  have hns113_0 := NB189_206.out
                  have hns113_1 := NB190_206.out
                  have hns113_2 := NB198_206.out
                  have hms113_0 := NB206_189.out
                  have hms113_1 := NB206_190.out
                  have hms113_2 := NB206_198.out
                  have hs114 : w112.cell? ⟨gb206, 1, none⟩ = some (.int .u32 x207001_30) := (blk_cell BK206.out 1).trans rfl
                  have hfs114 := blk_frozen BK206.out 1
                  have hns114_0 := NB189_206.out
                  have hns114_1 := NB190_206.out
                  have hns114_2 := NB198_206.out
                  have hms114_0 := NB206_189.out
                  have hms114_1 := NB206_190.out
                  have hms114_2 := NB206_198.out
                  have hs115 : w112.cell? ⟨gb206, 2, none⟩ = some (.bool x207002_30) := (blk_cell BK206.out 2).trans rfl
                  have hfs115 := blk_frozen BK206.out 2
                  have hns115_0 := NB189_206.out
                  have hns115_1 := NB190_206.out
                  have hns115_2 := NB198_206.out
                  have hms115_0 := NB206_189.out
                  have hms115_1 := NB206_190.out
                  have hms115_2 := NB206_198.out
                  have hs116 : w112.cell? ⟨gb206, 3, none⟩ = some (.int .i64 x207003_30) := (blk_cell BK206.out 3).trans rfl
                  have hfs116 := blk_frozen BK206.out 3
                  have hns116_0 := NB189_206.out
                  have hns116_1 := NB190_206.out
                  have hns116_2 := NB198_206.out
                  have hms116_0 := NB206_189.out
                  have hms116_1 := NB206_190.out
                  have hms116_2 := NB206_198.out
                  have hs117 : w112.cell? ⟨gb206, 4, none⟩ = some (u207004) := (blk_cell BK206.out 4).trans rfl
                  have hfs117 := blk_frozen BK206.out 4
                  have hns117_0 := NB189_206.out
                  have hns117_1 := NB190_206.out
                  have hns117_2 := NB198_206.out
                  have hms117_0 := NB206_189.out
                  have hms117_1 := NB206_190.out
                  have hms117_2 := NB206_198.out
                  refine skip_ (w1 := ?_) (by rfl) rfl ?_ ?_
                  rotate_left
                  · go_simp
                    rfl
                  refine hK.out _ _ ⟨((cell_far (p := ⟨gb206, _, none⟩) NB198_206.out _).trans (((cell_far (p := ⟨gb206, _, none⟩) NB198_206.out _).trans (((cell_far (p := ⟨gb206, _, none⟩) NB198_206.out _).trans (((cell_far (p := ⟨gb206, _, none⟩) NB198_206.out _).trans (((cell_far (p := ⟨gb206, _, none⟩) NB198_206.out _).trans (hHeld.1)))))))))), ((cell_far (p := ⟨gb206, _, none⟩) NB198_206.out _).trans (((cell_far (p := ⟨gb206, _, none⟩) NB198_206.out _).trans (((cell_far (p := ⟨gb206, _, none⟩) NB198_206.out _).trans (((cell_far (p := ⟨gb206, _, none⟩) NB198_206.out _).trans (((cell_far (p := ⟨gb206, _, none⟩) NB198_206.out _).trans (hHeld.2.1)))))))))), ((cell_far (p := ⟨gb206, _, none⟩) NB198_206.out _).trans (((cell_far (p := ⟨gb206, _, none⟩) NB198_206.out _).trans (((cell_far (p := ⟨gb206, _, none⟩) NB198_206.out _).trans (((cell_far (p := ⟨gb206, _, none⟩) NB198_206.out _).trans (((cell_far (p := ⟨gb206, _, none⟩) NB198_206.out _).trans (hHeld.2.2.1)))))))))), ((cell_far (p := ⟨gb206, _, none⟩) NB198_206.out _).trans (((cell_far (p := ⟨gb206, _, none⟩) NB198_206.out _).trans (((cell_far (p := ⟨gb206, _, none⟩) NB198_206.out _).trans (((cell_far (p := ⟨gb206, _, none⟩) NB198_206.out _).trans (((cell_far (p := ⟨gb206, _, none⟩) NB198_206.out _).trans (hHeld.2.2.2.1)))))))))), ((cell_far (p := ⟨gb206, _, none⟩) NB198_206.out _).trans (((cell_far (p := ⟨gb206, _, none⟩) NB198_206.out _).trans (((cell_far (p := ⟨gb206, _, none⟩) NB198_206.out _).trans (((cell_far (p := ⟨gb206, _, none⟩) NB198_206.out _).trans (((cell_far (p := ⟨gb206, _, none⟩) NB198_206.out _).trans (hHeld.2.2.2.2))))))))))⟩ (fun hHeld => ?_)
                  clear hK K
                  refine done_ (done_of HT_.out (by kernel_rfl)) ?_
                  have qHO_199004 := Aside0.mk (Kd.R_drewN HO_199004.out nd)
                  have qHO_207004 := Aside0.mk (Kd.R_drewN HO_207004.out nd)
                  have qBK206 := Aside0.mk (blk_drewN BK206.out nd)
                  have qBK189 := Aside0.mk (blk_drewN BK189.out nd)
                  have qBK190 := Aside0.mk (blk_drewN BK190.out nd)
                  have qBK198 := Aside0.mk (blk_drewN BK198.out nd)
                  have qHB := Aside0.mk (pw_below_drewN HB.out nd)
                  clear HO_199004
                  clear HO_207004
                  clear BK206
                  clear BK189
                  clear BK190
                  clear BK198
                  clear HB
                  have HO_199004 := qHO_199004
                  have HO_207004 := qHO_207004
                  have BK206 := qBK206
                  have BK189 := qBK189
                  have BK190 := qBK190
                  have BK198 := qBK198
                  have HB := qHB
                  clear qHO_199004 qHO_207004 qBK206 qBK189 qBK190 qBK198 qHB
                  generalize World.drewN w112 nd = w112 at HO_199004 HO_207004 BK206 BK189 BK190 BK198 HB ⊢
                  try go_wp2
                  have n0_ : Aside0 (Kd.R (Kd.int .u8) 5 (((((w112.setCell ⟨gb206, 0, none⟩ (.bool x199000_5)).setCell ⟨gb206, 1, none⟩ (.int .u32 (Go.bits .xor .u32 x199001_5 (ji111)))).setCell ⟨gb206, 2, none⟩ (.bool x199002_5)).setCell ⟨gb206, 3, none⟩ (.int .i64 0)).setCell ⟨gb206, 4, none⟩ (.slice none 0 0)) w.heap.size (fun k_ => some k_ ≠ (u207004 : Value).ownBlock) u199004 x199004_5) := ⟨by (with_reducible repeat (first | apply Kd.R_alloc | apply Kd.R_drewN | apply Kd.R_drew)); exact Kd.R_mono (Kd.R_far (p := ⟨gb206, 4, none⟩) (Kd.R_far (p := ⟨gb206, 3, none⟩) (Kd.R_far (p := ⟨gb206, 2, none⟩) (Kd.R_far (p := ⟨gb206, 1, none⟩) (Kd.R_far (p := ⟨gb206, 0, none⟩) (Kd.R_types HO_199004.out BK206.out (by decide)) (fun _ hk => hk.2) (.bool x199000_5)) (fun _ hk => hk.2) (.int .u32 (Go.bits .xor .u32 x199001_5 (ji111)))) (fun _ hk => hk.2) (.bool x199002_5)) (fun _ hk => hk.2) (.int .i64 0)) (fun _ hk => hk.2) (.slice none 0 0)) (fun _ hk => hk.1)⟩
                  have n1_ : Aside0 (Kd.R (Kd.int .u8) 5 (((((w112.setCell ⟨gb206, 0, none⟩ (.bool x199000_5)).setCell ⟨gb206, 1, none⟩ (.int .u32 (Go.bits .xor .u32 x199001_5 (ji111)))).setCell ⟨gb206, 2, none⟩ (.bool x199002_5)).setCell ⟨gb206, 3, none⟩ (.int .i64 0)).setCell ⟨gb206, 4, none⟩ (.slice none 0 0)) w.heap.size (fun k_ => some k_ ≠ (u199004 : Value).ownBlock) u207004 x207004_30) := ⟨by (with_reducible repeat (first | apply Kd.R_alloc | apply Kd.R_drewN | apply Kd.R_drew)); exact Kd.R_mono (Kd.R_far (p := ⟨gb206, 4, none⟩) (Kd.R_far (p := ⟨gb206, 3, none⟩) (Kd.R_far (p := ⟨gb206, 2, none⟩) (Kd.R_far (p := ⟨gb206, 1, none⟩) (Kd.R_far (p := ⟨gb206, 0, none⟩) (Kd.R_types HO_207004.out BK206.out (by decide)) (fun _ hk => hk.2) (.bool x199000_5)) (fun _ hk => hk.2) (.int .u32 (Go.bits .xor .u32 x199001_5 (ji111)))) (fun _ hk => hk.2) (.bool x199002_5)) (fun _ hk => hk.2) (.int .i64 0)) (fun _ hk => hk.2) (.slice none 0 0)) (fun _ hk => hk.1)⟩
                  have n2_ : Aside0 ((((((w112.setCell ⟨gb206, 0, none⟩ (.bool x199000_5)).setCell ⟨gb206, 1, none⟩ (.int .u32 (Go.bits .xor .u32 x199001_5 (ji111)))).setCell ⟨gb206, 2, none⟩ (.bool x199002_5)).setCell ⟨gb206, 3, none⟩ (.int .i64 0)).setCell ⟨gb206, 4, none⟩ (.slice none 0 0)).heap[gb189]? = some (.cells #[.bool false, .int .u32 0, .bool false, .int .i64 0, .slice none 0 0] 25 (0, 0))) := ⟨by (with_reducible repeat (first | refine blk_drewN ?_ _ | refine blk_drew ?_ | refine blk_alloc ?_ _)); refine blk_far ?_ NB189_206.out _; (with_reducible repeat (first | refine blk_drewN ?_ _ | refine blk_drew ?_ | refine blk_alloc ?_ _)); refine blk_far ?_ NB189_206.out _; (with_reducible repeat (first | refine blk_drewN ?_ _ | refine blk_drew ?_ | refine blk_alloc ?_ _)); refine blk_far ?_ NB189_206.out _; (with_reducible repeat (first | refine blk_drewN ?_ _ | refine blk_drew ?_ | refine blk_alloc ?_ _)); refine blk_far ?_ NB189_206.out _; (with_reducible repeat (first | refine blk_drewN ?_ _ | refine blk_drew ?_ | refine blk_alloc ?_ _)); refine blk_far ?_ NB189_206.out _; (with_reducible repeat (first | refine blk_drewN ?_ _ | refine blk_drew ?_ | refine blk_alloc ?_ _)); exact BK189.out⟩
                  have n3_ : Aside0 ((((((w112.setCell ⟨gb206, 0, none⟩ (.bool x199000_5)).setCell ⟨gb206, 1, none⟩ (.int .u32 (Go.bits .xor .u32 x199001_5 (ji111)))).setCell ⟨gb206, 2, none⟩ (.bool x199002_5)).setCell ⟨gb206, 3, none⟩ (.int .i64 0)).setCell ⟨gb206, 4, none⟩ (.slice none 0 0)).heap[gb190]? = some (.cells #[.bool false, .int .u32 0, .bool false, .int .i64 0, .slice none 0 0] 25 (0, 0))) := ⟨by (with_reducible repeat (first | refine blk_drewN ?_ _ | refine blk_drew ?_ | refine blk_alloc ?_ _)); refine blk_far ?_ NB190_206.out _; (with_reducible repeat (first | refine blk_drewN ?_ _ | refine blk_drew ?_ | refine blk_alloc ?_ _)); refine blk_far ?_ NB190_206.out _; (with_reducible repeat (first | refine blk_drewN ?_ _ | refine blk_drew ?_ | refine blk_alloc ?_ _)); refine blk_far ?_ NB190_206.out _; (with_reducible repeat (first | refine blk_drewN ?_ _ | refine blk_drew ?_ | refine blk_alloc ?_ _)); refine blk_far ?_ NB190_206.out _; (with_reducible repeat (first | refine blk_drewN ?_ _ | refine blk_drew ?_ | refine blk_alloc ?_ _)); refine blk_far ?_ NB190_206.out _; (with_reducible repeat (first | refine blk_drewN ?_ _ | refine blk_drew ?_ | refine blk_alloc ?_ _)); exact BK190.out⟩
                  have n4_ : Aside0 ((((((w112.setCell ⟨gb206, 0, none⟩ (.bool x199000_5)).setCell ⟨gb206, 1, none⟩ (.int .u32 (Go.bits .xor .u32 x199001_5 (ji111)))).setCell ⟨gb206, 2, none⟩ (.bool x199002_5)).setCell ⟨gb206, 3, none⟩ (.int .i64 0)).setCell ⟨gb206, 4, none⟩ (.slice none 0 0)).heap[gb198]? = some (.cells #[.bool x199000_5, .int .u32 x199001_5, .bool x199002_5, .int .i64 x199003_5, u199004] 25 (0, 0))) := ⟨by (with_reducible repeat (first | refine blk_drewN ?_ _ | refine blk_drew ?_ | refine blk_alloc ?_ _)); refine blk_far ?_ NB198_206.out _; (with_reducible repeat (first | refine blk_drewN ?_ _ | refine blk_drew ?_ | refine blk_alloc ?_ _)); refine blk_far ?_ NB198_206.out _; (with_reducible repeat (first | refine blk_drewN ?_ _ | refine blk_drew ?_ | refine blk_alloc ?_ _)); refine blk_far ?_ NB198_206.out _; (with_reducible repeat (first | refine blk_drewN ?_ _ | refine blk_drew ?_ | refine blk_alloc ?_ _)); refine blk_far ?_ NB198_206.out _; (with_reducible repeat (first | refine blk_drewN ?_ _ | refine blk_drew ?_ | refine blk_alloc ?_ _)); refine blk_far ?_ NB198_206.out _; (with_reducible repeat (first | refine blk_drewN ?_ _ | refine blk_drew ?_ | refine blk_alloc ?_ _)); exact BK198.out⟩
                  have n5_ : Aside0 ((((((w112.setCell ⟨gb206, 0, none⟩ (.bool x199000_5)).setCell ⟨gb206, 1, none⟩ (.int .u32 (Go.bits .xor .u32 x199001_5 (ji111)))).setCell ⟨gb206, 2, none⟩ (.bool x199002_5)).setCell ⟨gb206, 3, none⟩ (.int .i64 0)).setCell ⟨gb206, 4, none⟩ (.slice none 0 0)).heap[gb206]? = some (.cells #[.bool x199000_5, .int .u32 (Go.bits .xor .u32 x199001_5 (ji111)), .bool x199002_5, .int .i64 0, .slice none 0 0] 25 (0, 0))) := ⟨by (with_reducible repeat (first | refine blk_drewN ?_ _ | refine blk_drew ?_ | refine blk_alloc ?_ _)); refine blk_put (cs := #[.bool x199000_5, .int .u32 (Go.bits .xor .u32 x199001_5 (ji111)), .bool x199002_5, .int .i64 0, u207004]) ?_ 4 _ rfl; (with_reducible repeat (first | refine blk_drewN ?_ _ | refine blk_drew ?_ | refine blk_alloc ?_ _)); refine blk_put (cs := #[.bool x199000_5, .int .u32 (Go.bits .xor .u32 x199001_5 (ji111)), .bool x199002_5, .int .i64 x207003_30, u207004]) ?_ 3 _ rfl; (with_reducible repeat (first | refine blk_drewN ?_ _ | refine blk_drew ?_ | refine blk_alloc ?_ _)); refine blk_put (cs := #[.bool x199000_5, .int .u32 (Go.bits .xor .u32 x199001_5 (ji111)), .bool x207002_30, .int .i64 x207003_30, u207004]) ?_ 2 _ rfl; (with_reducible repeat (first | refine blk_drewN ?_ _ | refine blk_drew ?_ | refine blk_alloc ?_ _)); refine blk_put (cs := #[.bool x199000_5, .int .u32 x207001_30, .bool x207002_30, .int .i64 x207003_30, u207004]) ?_ 1 _ rfl; (with_reducible repeat (first | refine blk_drewN ?_ _ | refine blk_drew ?_ | refine blk_alloc ?_ _)); refine blk_put (cs := #[.bool x207000_30, .int .u32 x207001_30, .bool x207002_30, .int .i64 x207003_30, u207004]) ?_ 0 _ rfl; (with_reducible repeat (first | refine blk_drewN ?_ _ | refine blk_drew ?_ | refine blk_alloc ?_ _)); exact BK206.out⟩
                  have n6_ : Aside0 (Below w.heap.size w (((((w112.setCell ⟨gb206, 0, none⟩ (.bool x199000_5)).setCell ⟨gb206, 1, none⟩ (.int .u32 (Go.bits .xor .u32 x199001_5 (ji111)))).setCell ⟨gb206, 2, none⟩ (.bool x199002_5)).setCell ⟨gb206, 3, none⟩ (.int .i64 0)).setCell ⟨gb206, 4, none⟩ (.slice none 0 0))) := ⟨by repeat (first | (with_reducible first | exact HB.out | apply below_alloc | apply pw_below_drewN | apply below_drew1 | refine below_set ?_ GE189.out | refine below_set ?_ GE190.out | refine below_set ?_ GE198.out | refine below_set ?_ GE206.out) | exact HB.out)⟩
                  (try clear HO_199004)
                  (try clear HO_207004)
                  (try clear BK189)
                  (try clear BK190)
                  (try clear BK198)
                  (try clear BK206)
                  (try clear HB)
                  generalize (((((w112.setCell ⟨gb206, 0, none⟩ (.bool x199000_5)).setCell ⟨gb206, 1, none⟩ (.int .u32 (Go.bits .xor .u32 x199001_5 (ji111)))).setCell ⟨gb206, 2, none⟩ (.bool x199002_5)).setCell ⟨gb206, 3, none⟩ (.int .i64 0)).setCell ⟨gb206, 4, none⟩ (.slice none 0 0)) = w118 at n0_ n1_ n2_ n3_ n4_ n5_ n6_ ⊢
                  have HO_199004 := n0_
                  have HO_207004 := n1_
                  have BK189 := n2_
                  have BK190 := n3_
                  have BK198 := n4_
                  have BK206 := n5_
                  have HB := n6_
                  clear n0_ n1_ n2_ n3_ n4_ n5_ n6_
                  (try (rw [drewN_self w118]; generalize hq_ : World.drewN w118 _ = w118; have n0_ : Aside0 (Kd.R (Kd.int .u8) 5 w118 w.heap.size (fun k_ => some k_ ≠ (u207004 : Value).ownBlock) u199004 x199004_5) := ⟨by rw [← hq_]; exact (by (with_reducible repeat (first | apply Kd.R_alloc | apply Kd.R_drewN | apply Kd.R_drew)); exact HO_199004.out)⟩; have n1_ : Aside0 (Kd.R (Kd.int .u8) 5 w118 w.heap.size (fun k_ => some k_ ≠ (u199004 : Value).ownBlock) u207004 x207004_30) := ⟨by rw [← hq_]; exact (by (with_reducible repeat (first | apply Kd.R_alloc | apply Kd.R_drewN | apply Kd.R_drew)); exact HO_207004.out)⟩; have n2_ : Aside0 (w118.heap[gb189]? = some (.cells #[.bool false, .int .u32 0, .bool false, .int .i64 0, .slice none 0 0] 25 (0, 0))) := ⟨by rw [← hq_]; exact (by (with_reducible repeat (first | refine blk_drewN ?_ _ | refine blk_drew ?_ | refine blk_alloc ?_ _)); exact BK189.out)⟩; have n3_ : Aside0 (w118.heap[gb190]? = some (.cells #[.bool false, .int .u32 0, .bool false, .int .i64 0, .slice none 0 0] 25 (0, 0))) := ⟨by rw [← hq_]; exact (by (with_reducible repeat (first | refine blk_drewN ?_ _ | refine blk_drew ?_ | refine blk_alloc ?_ _)); exact BK190.out)⟩; have n4_ : Aside0 (w118.heap[gb198]? = some (.cells #[.bool x199000_5, .int .u32 x199001_5, .bool x199002_5, .int .i64 x199003_5, u199004] 25 (0, 0))) := ⟨by rw [← hq_]; exact (by (with_reducible repeat (first | refine blk_drewN ?_ _ | refine blk_drew ?_ | refine blk_alloc ?_ _)); exact BK198.out)⟩; have n5_ : Aside0 (w118.heap[gb206]? = some (.cells #[.bool x199000_5, .int .u32 (Go.bits .xor .u32 x199001_5 (ji111)), .bool x199002_5, .int .i64 0, .slice none 0 0] 25 (0, 0))) := ⟨by rw [← hq_]; exact (by (with_reducible repeat (first | refine blk_drewN ?_ _ | refine blk_drew ?_ | refine blk_alloc ?_ _)); exact BK206.out)⟩; have n6_ : Aside0 (Below w.heap.size w w118) := ⟨by rw [← hq_]; exact (by repeat (first | (with_reducible first | exact HB.out | apply below_alloc | apply pw_below_drewN | apply below_drew1 | refine below_set ?_ GE189.out | refine below_set ?_ GE190.out | refine below_set ?_ GE198.out | refine below_set ?_ GE206.out) | exact HB.out))⟩; clear HO_199004 HO_207004 BK189 BK190 BK198 BK206 HB hq_; have HO_199004 := n0_; have HO_207004 := n1_; have BK189 := n2_; have BK190 := n3_; have BK198 := n4_; have BK206 := n5_; have HB := n6_; clear n0_ n1_ n2_ n3_ n4_ n5_ n6_))
                  have n0_ := Aside0.mk (Kd.R_drew HO_199004.out)
                  have n1_ := Aside0.mk (Kd.R_drew HO_207004.out)
                  have n2_ := Aside0.mk (blk_drew BK189.out)
                  have n3_ := Aside0.mk (blk_drew BK190.out)
                  have n4_ := Aside0.mk (blk_drew BK198.out)
                  have n5_ := Aside0.mk (blk_drew BK206.out)
                  have n6_ := Aside0.mk (below_drew1 HB.out)
                  clear HO_199004
                  clear HO_207004
                  clear BK189
                  clear BK190
                  clear BK198
                  clear BK206
                  clear HB
                  have HO_199004 := n0_
                  have HO_207004 := n1_
                  have BK189 := n2_
                  have BK190 := n3_
                  have BK198 := n4_
                  have BK206 := n5_
                  have HB := n6_
                  clear n0_ n1_ n2_ n3_ n4_ n5_ n6_
                  obtain ⟨Ao124, co124, eo124⟩ := Kd.R_slice HO_199004.out
                  (first | subst eo124 | (injection eo124 with f1_ f2_ f3_; have f4_ := f1_.symm; have f5_ := f3_.symm; clear f1_ f2_ f3_; subst f4_; subst f5_))
                  refine start_ (n := 4) (S := fun w' => w'.cell? ⟨gb198, 0, none⟩ = some (.bool x199000_5) ∧ w'.cell? ⟨gb198, 1, none⟩ = some (.int .u32 x199001_5) ∧ w'.cell? ⟨gb198, 2, none⟩ = some (.bool x199002_5) ∧ w'.cell? ⟨gb198, 3, none⟩ = some (.int .i64 x199003_5) ∧ w'.cell? ⟨gb198, 4, none⟩ = some (.slice Ao124 x199004_5.length co124) ∧ w'.cell? ⟨gb206, 0, none⟩ = some (.bool x199000_5) ∧ w'.cell? ⟨gb206, 1, none⟩ = some (.int .u32 (Go.bits .xor .u32 x199001_5 (ji111))) ∧ w'.cell? ⟨gb206, 2, none⟩ = some (.bool x199002_5) ∧ w'.cell? ⟨gb206, 3, none⟩ = some (.int .i64 0) ∧ w'.cell? ⟨gb206, 4, none⟩ = some (.slice none 0 0)) (ds := []) #[false, false, false, false] (by kernel_rfl) rfl rfl ⟨(blk_cell BK198.out 0).trans rfl, (blk_cell BK198.out 1).trans rfl, (blk_cell BK198.out 2).trans rfl, (blk_cell BK198.out 3).trans rfl, (blk_cell BK198.out 4).trans rfl, (blk_cell BK206.out 0).trans rfl, (blk_cell BK206.out 1).trans rfl, (blk_cell BK206.out 2).trans rfl, (blk_cell BK206.out 3).trans rfl, (blk_cell BK206.out 4).trans rfl⟩ (fun hHeld => ?_)
                  generalize w118.drew = w119 at HO_199004 HO_207004 BK189 BK190 BK198 BK206 HB hHeld ⊢
                  refine take_ (i := 0) (N := some 70) (v := ?_) (a' := ?_) #[true, false, false, false] rfl rfl (by kernel_rfl) (fun _ _ _ h => h) (Or.inl ⟨by rfl, ?_⟩) hHeld ?_ ?_
                  rotate_left
                  · rintro w' ⟨s0, s1, s2, s3, s4, s5, s6, s7, s8, s9⟩
                    go_simp
                    with_reducible rfl
                  rotate_left
                  · simp only [Act.put, List.setIfInBounds_toArray, List.set_cons_zero, List.set_cons_succ, i64_w, i32_w]
                    rfl
                  refine take_ (i := 1) (N := some 71) (v := ?_) (a' := ?_) #[true, true, false, false] rfl rfl (by kernel_rfl) (fun _ _ _ h => h) (Or.inl ⟨by rfl, ?_⟩) hHeld ?_ ?_
                  rotate_left
                  · rintro w' ⟨s0, s1, s2, s3, s4, s5, s6, s7, s8, s9⟩
                    go_simp
                    with_reducible rfl
                  rotate_left
                  · simp only [Act.put, List.setIfInBounds_toArray, List.set_cons_zero, List.set_cons_succ, i64_w, i32_w]
                    rfl
                  refine one_ (i := 2) (N := none) #[true, true, true, false] rfl rfl (by kernel_rfl) (by decide) (fun K hK => ?_)
                  have hs120 : w119.cell? ⟨gb189, 0, none⟩ = some (.bool false) := (blk_cell BK189.out 0).trans rfl
                  have hfs120 := blk_frozen BK189.out 0
                  have hns120_1 := NB190_189.out
                  have hns120_2 := NB198_189.out
                  have hns120_3 := NB206_189.out
                  have hms120_1 := NB189_190.out
                  have hms120_2 := NB189_198.out
                  have hms120_3 := NB189_206.out
                  have hs121 : w119.cell? ⟨gb189, 1, none⟩ = some (.int .u32 0) := (blk_cell BK189.out 1).trans rfl
                  have hfs121 := blk_frozen BK189.out 1
                  have hns121_1 := NB190_189.out
                  have hns121_2 := NB198_189.out
                  have hns121_3 := NB206_189.out
                  have hms121_1 := NB189_190.out
                  have hms121_2 := NB189_198.out
                  have hms121_3 := NB189_206.out
                  have hs122 : w119.cell? ⟨gb189, 2, none⟩ = some (.bool false) := (blk_cell BK189.out 2).trans rfl
                  have hfs122 := blk_frozen BK189.out 2
                  have hns122_1 := NB190_189.out
                  have hns122_2 := NB198_189.out
                  have hns122_3 := NB206_189.out
                  have hms122_1 := NB189_190.out
                  have hms122_2 := NB189_198.out
                  have hms122_3 := NB189_206.out
                  have hs123 : w119.cell? ⟨gb189, 3, none⟩ = some (.int .i64 0) := (blk_cell BK189.out 3).trans rfl
                  have hfs123 := blk_frozen BK189.out 3
                  have hns123_1 := NB190_189.out
                  have hns123_2 := NB198_189.out
                  have hns123_3 := NB206_189.out
                  have hms123_1 := NB189_190.out
                  have hms123_2 := NB189_198.out
                  have hms123_3 := NB189_206.out
                  have hs125 : w119.cell? ⟨gb189, 4, none⟩ = some (.slice none 0 0) := (blk_cell BK189.out 4).trans rfl
                  have hfs125 := blk_frozen BK189.out 4
                  have hns125_1 := NB190_189.out
                  have hns125_2 := NB198_189.out
                  have hns125_3 := NB206_189.out
                  have hms125_1 := NB189_190.out
                  have hms125_2 := NB189_198.out
                  have hms125_3 := NB189_206.out
                  refine skip_ (w1 := ?_) (by rfl) rfl ?_ ?_
                  rotate_left
                  · go_simp
                    rfl
                  refine hK.out _ _ ⟨((cell_far (p := ⟨gb189, _, none⟩) NB198_189.out _).trans (((cell_far (p := ⟨gb189, _, none⟩) NB198_189.out _).trans (((cell_far (p := ⟨gb189, _, none⟩) NB198_189.out _).trans (((cell_far (p := ⟨gb189, _, none⟩) NB198_189.out _).trans (((cell_far (p := ⟨gb189, _, none⟩) NB198_189.out _).trans (hHeld.1)))))))))), ((cell_far (p := ⟨gb189, _, none⟩) NB198_189.out _).trans (((cell_far (p := ⟨gb189, _, none⟩) NB198_189.out _).trans (((cell_far (p := ⟨gb189, _, none⟩) NB198_189.out _).trans (((cell_far (p := ⟨gb189, _, none⟩) NB198_189.out _).trans (((cell_far (p := ⟨gb189, _, none⟩) NB198_189.out _).trans (hHeld.2.1)))))))))), ((cell_far (p := ⟨gb189, _, none⟩) NB198_189.out _).trans (((cell_far (p := ⟨gb189, _, none⟩) NB198_189.out _).trans (((cell_far (p := ⟨gb189, _, none⟩) NB198_189.out _).trans (((cell_far (p := ⟨gb189, _, none⟩) NB198_189.out _).trans (((cell_far (p := ⟨gb189, _, none⟩) NB198_189.out _).trans (hHeld.2.2.1)))))))))), ((cell_far (p := ⟨gb189, _, none⟩) NB198_189.out _).trans (((cell_far (p := ⟨gb189, _, none⟩) NB198_189.out _).trans (((cell_far (p := ⟨gb189, _, none⟩) NB198_189.out _).trans (((cell_far (p := ⟨gb189, _, none⟩) NB198_189.out _).trans (((cell_far (p := ⟨gb189, _, none⟩) NB198_189.out _).trans (hHeld.2.2.2.1)))))))))), ((cell_far (p := ⟨gb189, _, none⟩) NB198_189.out _).trans (((cell_far (p := ⟨gb189, _, none⟩) NB198_189.out _).trans (((cell_far (p := ⟨gb189, _, none⟩) NB198_189.out _).trans (((cell_far (p := ⟨gb189, _, none⟩) NB198_189.out _).trans (((cell_far (p := ⟨gb189, _, none⟩) NB198_189.out _).trans (hHeld.2.2.2.2.1)))))))))), ((cell_far (p := ⟨gb189, _, none⟩) NB206_189.out _).trans (((cell_far (p := ⟨gb189, _, none⟩) NB206_189.out _).trans (((cell_far (p := ⟨gb189, _, none⟩) NB206_189.out _).trans (((cell_far (p := ⟨gb189, _, none⟩) NB206_189.out _).trans (((cell_far (p := ⟨gb189, _, none⟩) NB206_189.out _).trans (hHeld.2.2.2.2.2.1)))))))))), ((cell_far (p := ⟨gb189, _, none⟩) NB206_189.out _).trans (((cell_far (p := ⟨gb189, _, none⟩) NB206_189.out _).trans (((cell_far (p := ⟨gb189, _, none⟩) NB206_189.out _).trans (((cell_far (p := ⟨gb189, _, none⟩) NB206_189.out _).trans (((cell_far (p := ⟨gb189, _, none⟩) NB206_189.out _).trans (hHeld.2.2.2.2.2.2.1)))))))))), ((cell_far (p := ⟨gb189, _, none⟩) NB206_189.out _).trans (((cell_far (p := ⟨gb189, _, none⟩) NB206_189.out _).trans (((cell_far (p := ⟨gb189, _, none⟩) NB206_189.out _).trans (((cell_far (p := ⟨gb189, _, none⟩) NB206_189.out _).trans (((cell_far (p := ⟨gb189, _, none⟩) NB206_189.out _).trans (hHeld.2.2.2.2.2.2.2.1)))))))))), ((cell_far (p := ⟨gb189, _, none⟩) NB206_189.out _).trans (((cell_far (p := ⟨gb189, _, none⟩) NB206_189.out _).trans (((cell_far (p := ⟨gb189, _, none⟩) NB206_189.out _).trans (((cell_far (p := ⟨gb189, _, none⟩) NB206_189.out _).trans (((cell_far (p := ⟨gb189, _, none⟩) NB206_189.out _).trans (hHeld.2.2.2.2.2.2.2.2.1)))))))))), ((cell_far (p := ⟨gb189, _, none⟩) NB206_189.out _).trans (((cell_far (p := ⟨gb189, _, none⟩) NB206_189.out _).trans (((cell_far (p := ⟨gb189, _, none⟩) NB206_189.out _).trans (((cell_far (p := ⟨gb189, _, none⟩) NB206_189.out _).trans (((cell_far (p := ⟨gb189, _, none⟩) NB206_189.out _).trans (hHeld.2.2.2.2.2.2.2.2.2))))))))))⟩ (fun hHeld => ?_)
                  clear hK K
                  refine one_ (i := 3) (N := none) #[true, true, true, true] rfl rfl (by kernel_rfl) (by decide) (fun K hK => ?_)
                  have hs126 : w119.cell? ⟨gb190, 0, none⟩ = some (.bool false) := (blk_cell BK190.out 0).trans rfl
                  have hfs126 := blk_frozen BK190.out 0
                  have hns126_0 := NB189_190.out
                  have hns126_2 := NB198_190.out
                  have hns126_3 := NB206_190.out
                  have hms126_0 := NB190_189.out
                  have hms126_2 := NB190_198.out
                  have hms126_3 := NB190_206.out
                  have hs127 : w119.cell? ⟨gb190, 1, none⟩ = some (.int .u32 0) := (blk_cell BK190.out 1).trans rfl
                  have hfs127 := blk_frozen BK190.out 1
                  have hns127_0 := NB189_190.out
                  have hns127_2 := NB198_190.out
                  have hns127_3 := NB206_190.out
                  have hms127_0 := NB190_189.out
                  have hms127_2 := NB190_198.out
                  have hms127_3 := NB190_206.out
                  have hs128 : w119.cell? ⟨gb190, 2, none⟩ = some (.bool false) := (blk_cell BK190.out 2).trans rfl
                  have hfs128 := blk_frozen BK190.out 2
                  have hns128_0 := NB189_190.out
                  have hns128_2 := NB198_190.out
                  have hns128_3 := NB206_190.out
                  have hms128_0 := NB190_189.out
                  have hms128_2 := NB190_198.out
                  have hms128_3 := NB190_206.out
                  have hs129 : w119.cell? ⟨gb190, 3, none⟩ = some (.int .i64 0) := (blk_cell BK190.out 3).trans rfl
                  have hfs129 := blk_frozen BK190.out 3
                  have hns129_0 := NB189_190.out
                  have hns129_2 := NB198_190.out
                  have hns129_3 := NB206_190.out
                  have hms129_0 := NB190_189.out
                  have hms129_2 := NB190_198.out
                  have hms129_3 := NB190_206.out
                  have hs130 : w119.cell? ⟨gb190, 4, none⟩ = some (.slice none 0 0) := (blk_cell BK190.out 4).trans rfl
                  have hfs130 := blk_frozen BK190.out 4
                  have hns130_0 := NB189_190.out
                  have hns130_2 := NB198_190.out
                  have hns130_3 := NB206_190.out
                  have hms130_0 := NB190_189.out
                  have hms130_2 := NB190_198.out
                  have hms130_3 := NB190_206.out
                  refine skip_ (w1 := ?_) (by rfl) rfl ?_ ?_
                  rotate_left
                  · go_simp
                    rfl
                  refine hK.out _ _ ⟨((cell_far (p := ⟨gb190, _, none⟩) NB198_190.out _).trans (((cell_far (p := ⟨gb190, _, none⟩) NB198_190.out _).trans (((cell_far (p := ⟨gb190, _, none⟩) NB198_190.out _).trans (((cell_far (p := ⟨gb190, _, none⟩) NB198_190.out _).trans (((cell_far (p := ⟨gb190, _, none⟩) NB198_190.out _).trans (hHeld.1)))))))))), ((cell_far (p := ⟨gb190, _, none⟩) NB198_190.out _).trans (((cell_far (p := ⟨gb190, _, none⟩) NB198_190.out _).trans (((cell_far (p := ⟨gb190, _, none⟩) NB198_190.out _).trans (((cell_far (p := ⟨gb190, _, none⟩) NB198_190.out _).trans (((cell_far (p := ⟨gb190, _, none⟩) NB198_190.out _).trans (hHeld.2.1)))))))))), ((cell_far (p := ⟨gb190, _, none⟩) NB198_190.out _).trans (((cell_far (p := ⟨gb190, _, none⟩) NB198_190.out _).trans (((cell_far (p := ⟨gb190, _, none⟩) NB198_190.out _).trans (((cell_far (p := ⟨gb190, _, none⟩) NB198_190.out _).trans (((cell_far (p := ⟨gb190, _, none⟩) NB198_190.out _).trans (hHeld.2.2.1)))))))))), ((cell_far (p := ⟨gb190, _, none⟩) NB198_190.out _).trans (((cell_far (p := ⟨gb190, _, none⟩) NB198_190.out _).trans (((cell_far (p := ⟨gb190, _, none⟩) NB198_190.out _).trans (((cell_far (p := ⟨gb190, _, none⟩) NB198_190.out _).trans (((cell_far (p := ⟨gb190, _, none⟩) NB198_190.out _).trans (hHeld.2.2.2.1)))))))))), ((cell_far (p := ⟨gb190, _, none⟩) NB198_190.out _).trans (((cell_far (p := ⟨gb190, _, none⟩) NB198_190.out _).trans (((cell_far (p := ⟨gb190, _, none⟩) NB198_190.out _).trans (((cell_far (p := ⟨gb190, _, none⟩) NB198_190.out _).trans (((cell_far (p := ⟨gb190, _, none⟩) NB198_190.out _).trans (hHeld.2.2.2.2.1)))))))))), ((cell_far (p := ⟨gb190, _, none⟩) NB206_190.out _).trans (((cell_far (p := ⟨gb190, _, none⟩) NB206_190.out _).trans (((cell_far (p := ⟨gb190, _, none⟩) NB206_190.out _).trans (((cell_far (p := ⟨gb190, _, none⟩) NB206_190.out _).trans (((cell_far (p := ⟨gb190, _, none⟩) NB206_190.out _).trans (hHeld.2.2.2.2.2.1)))))))))), ((cell_far (p := ⟨gb190, _, none⟩) NB206_190.out _).trans (((cell_far (p := ⟨gb190, _, none⟩) NB206_190.out _).trans (((cell_far (p := ⟨gb190, _, none⟩) NB206_190.out _).trans (((cell_far (p := ⟨gb190, _, none⟩) NB206_190.out _).trans (((cell_far (p := ⟨gb190, _, none⟩) NB206_190.out _).trans (hHeld.2.2.2.2.2.2.1)))))))))), ((cell_far (p := ⟨gb190, _, none⟩) NB206_190.out _).trans (((cell_far (p := ⟨gb190, _, none⟩) NB206_190.out _).trans (((cell_far (p := ⟨gb190, _, none⟩) NB206_190.out _).trans (((cell_far (p := ⟨gb190, _, none⟩) NB206_190.out _).trans (((cell_far (p := ⟨gb190, _, none⟩) NB206_190.out _).trans (hHeld.2.2.2.2.2.2.2.1)))))))))), ((cell_far (p := ⟨gb190, _, none⟩) NB206_190.out _).trans (((cell_far (p := ⟨gb190, _, none⟩) NB206_190.out _).trans (((cell_far (p := ⟨gb190, _, none⟩) NB206_190.out _).trans (((cell_far (p := ⟨gb190, _, none⟩) NB206_190.out _).trans (((cell_far (p := ⟨gb190, _, none⟩) NB206_190.out _).trans (hHeld.2.2.2.2.2.2.2.2.1)))))))))), ((cell_far (p := ⟨gb190, _, none⟩) NB206_190.out _).trans (((cell_far (p := ⟨gb190, _, none⟩) NB206_190.out _).trans (((cell_far (p := ⟨gb190, _, none⟩) NB206_190.out _).trans (((cell_far (p := ⟨gb190, _, none⟩) NB206_190.out _).trans (((cell_far (p := ⟨gb190, _, none⟩) NB206_190.out _).trans (hHeld.2.2.2.2.2.2.2.2.2))))))))))⟩ (fun hHeld => ?_)
                  clear hK K
                  refine done_ (by kernel_rfl) ?_
                  try go_wp2
                  refine bodyPost_ret (results_cc rfl _ _ gb189 gb190 25 25 #[.bool x199000_5, .int .u32 x199001_5, .bool x199002_5, .int .i64 x199003_5, .slice Ao124 x199004_5.length co124] #[.bool x199000_5, .int .u32 (Go.bits .xor .u32 x199001_5 (ji111)), .bool x199002_5, .int .i64 0, .slice none 0 0] (0, 0) (0, 0) _ _ rfl (by (with_reducible repeat (first | refine blk_drewN ?_ _ | refine blk_drew ?_ | refine blk_alloc ?_ _)); refine blk_far ?_ NB189_190.out _; (with_reducible repeat (first | refine blk_drewN ?_ _ | refine blk_drew ?_ | refine blk_alloc ?_ _)); refine blk_far ?_ NB189_190.out _; (with_reducible repeat (first | refine blk_drewN ?_ _ | refine blk_drew ?_ | refine blk_alloc ?_ _)); refine blk_far ?_ NB189_190.out _; (with_reducible repeat (first | refine blk_drewN ?_ _ | refine blk_drew ?_ | refine blk_alloc ?_ _)); refine blk_far ?_ NB189_190.out _; (with_reducible repeat (first | refine blk_drewN ?_ _ | refine blk_drew ?_ | refine blk_alloc ?_ _)); refine blk_far ?_ NB189_190.out _; (with_reducible repeat (first | refine blk_drewN ?_ _ | refine blk_drew ?_ | refine blk_alloc ?_ _)); refine blk_put (cs := #[.bool x199000_5, .int .u32 x199001_5, .bool x199002_5, .int .i64 x199003_5, .slice none 0 0]) ?_ 4 _ rfl; (with_reducible repeat (first | refine blk_drewN ?_ _ | refine blk_drew ?_ | refine blk_alloc ?_ _)); refine blk_put (cs := #[.bool x199000_5, .int .u32 x199001_5, .bool x199002_5, .int .i64 0, .slice none 0 0]) ?_ 3 _ rfl; (with_reducible repeat (first | refine blk_drewN ?_ _ | refine blk_drew ?_ | refine blk_alloc ?_ _)); refine blk_put (cs := #[.bool x199000_5, .int .u32 x199001_5, .bool false, .int .i64 0, .slice none 0 0]) ?_ 2 _ rfl; (with_reducible repeat (first | refine blk_drewN ?_ _ | refine blk_drew ?_ | refine blk_alloc ?_ _)); refine blk_put (cs := #[.bool x199000_5, .int .u32 0, .bool false, .int .i64 0, .slice none 0 0]) ?_ 1 _ rfl; (with_reducible repeat (first | refine blk_drewN ?_ _ | refine blk_drew ?_ | refine blk_alloc ?_ _)); refine blk_put (cs := #[.bool false, .int .u32 0, .bool false, .int .i64 0, .slice none 0 0]) ?_ 0 _ rfl; (with_reducible repeat (first | refine blk_drewN ?_ _ | refine blk_drew ?_ | refine blk_alloc ?_ _)); exact BK189.out) Try.underlying25 rfl (by kernel_rfl) rfl (by (with_reducible repeat (first | refine blk_drewN ?_ _ | refine blk_drew ?_ | refine blk_alloc ?_ _)); refine blk_put (cs := #[.bool x199000_5, .int .u32 (Go.bits .xor .u32 x199001_5 (ji111)), .bool x199002_5, .int .i64 0, .slice none 0 0]) ?_ 4 _ rfl; (with_reducible repeat (first | refine blk_drewN ?_ _ | refine blk_drew ?_ | refine blk_alloc ?_ _)); refine blk_put (cs := #[.bool x199000_5, .int .u32 (Go.bits .xor .u32 x199001_5 (ji111)), .bool x199002_5, .int .i64 0, .slice none 0 0]) ?_ 3 _ rfl; (with_reducible repeat (first | refine blk_drewN ?_ _ | refine blk_drew ?_ | refine blk_alloc ?_ _)); refine blk_put (cs := #[.bool x199000_5, .int .u32 (Go.bits .xor .u32 x199001_5 (ji111)), .bool false, .int .i64 0, .slice none 0 0]) ?_ 2 _ rfl; (with_reducible repeat (first | refine blk_drewN ?_ _ | refine blk_drew ?_ | refine blk_alloc ?_ _)); refine blk_put (cs := #[.bool x199000_5, .int .u32 0, .bool false, .int .i64 0, .slice none 0 0]) ?_ 1 _ rfl; (with_reducible repeat (first | refine blk_drewN ?_ _ | refine blk_drew ?_ | refine blk_alloc ?_ _)); refine blk_put (cs := #[.bool false, .int .u32 0, .bool false, .int .i64 0, .slice none 0 0]) ?_ 0 _ rfl; (with_reducible repeat (first | refine blk_drewN ?_ _ | refine blk_drew ?_ | refine blk_alloc ?_ _)); refine blk_far ?_ NB190_189.out _; (with_reducible repeat (first | refine blk_drewN ?_ _ | refine blk_drew ?_ | refine blk_alloc ?_ _)); refine blk_far ?_ NB190_189.out _; (with_reducible repeat (first | refine blk_drewN ?_ _ | refine blk_drew ?_ | refine blk_alloc ?_ _)); refine blk_far ?_ NB190_189.out _; (with_reducible repeat (first | refine blk_drewN ?_ _ | refine blk_drew ?_ | refine blk_alloc ?_ _)); refine blk_far ?_ NB190_189.out _; (with_reducible repeat (first | refine blk_drewN ?_ _ | refine blk_drew ?_ | refine blk_alloc ?_ _)); refine blk_far ?_ NB190_189.out _; (with_reducible repeat (first | refine blk_drewN ?_ _ | refine blk_drew ?_ | refine blk_alloc ?_ _)); exact BK190.out) Try.underlying25 rfl (by kernel_rfl)) rfl ?_
                  exact ⟨_, _, by first | rfl | (simp [errW_none, errW_some] <;> rfl) | (simp only [← hji109, ← hji111]; first | rfl | (simp [errW_none, errW_some] <;> rfl)) | (simp [*, errW_none, errW_some] <;> rfl), by (with_reducible repeat (first | apply Kd.R_alloc | apply Kd.R_drewN | apply Kd.R_drew)); exact Kd.R_mono (Kd.R_far (p := ⟨gb190, 4, none⟩) (Kd.R_far (p := ⟨gb190, 3, none⟩) (Kd.R_far (p := ⟨gb190, 2, none⟩) (Kd.R_far (p := ⟨gb190, 1, none⟩) (Kd.R_far (p := ⟨gb190, 0, none⟩) (Kd.R_far (p := ⟨gb189, 4, none⟩) (Kd.R_far (p := ⟨gb189, 3, none⟩) (Kd.R_far (p := ⟨gb189, 2, none⟩) (Kd.R_far (p := ⟨gb189, 1, none⟩) (Kd.R_far (p := ⟨gb189, 0, none⟩) (Kd.R_types (Kd.R_types HO_199004.out BK189.out (by decide)) BK190.out (by decide)) (fun _ hk => hk.1.2) (.bool x199000_5)) (fun _ hk => hk.1.2) (.int .u32 x199001_5)) (fun _ hk => hk.1.2) (.bool x199002_5)) (fun _ hk => hk.1.2) (.int .i64 x199003_5)) (fun _ hk => hk.1.2) (.slice Ao124 x199004_5.length co124)) (fun _ hk => hk.2) (.bool x199000_5)) (fun _ hk => hk.2) (.int .u32 (Go.bits .xor .u32 x199001_5 (ji111)))) (fun _ hk => hk.2) (.bool x199002_5)) (fun _ hk => hk.2) (.int .i64 0)) (fun _ hk => hk.2) (.slice none 0 0)) (fun _ hk => (by simp [Value.ownBlock])), by first | exact Kd.R_nil _ _ _ _ _ | exact Kd.N_nil _ _ _ _ _ | exact Kd.V_nil _ _ _ _ _ | exact Kd.Q_nil _ _ _ _ _ | exact Kd.S_nil _ _ _ _ _, by repeat (first | (with_reducible first | exact HB.out | apply below_alloc | apply pw_below_drewN | apply below_drew1 | refine below_set ?_ GE189.out | refine below_set ?_ GE190.out | refine below_set ?_ GE198.out | refine below_set ?_ GE206.out) | exact HB.out)⟩
                · rw [if_neg c110] at H
                  exact absurd H (by simp)
              · rw [if_neg c107] at H
                have c107b0 : ((Int.tmod t211 4) == 2) = false := beq_eq_false_iff_ne.mpr c107
                have c107b1 : ((Int.tmod t211 4) != 2) = true := bne_iff_ne.mpr c107
                simp only [Option.some.injEq, Prod.mk.injEq] at H
                obtain ⟨rfl, rfl, rfl, rfl, rfl, rfl, rfl, rfl, rfl, rfl⟩ := H
                try go_wp2_with (first | ((with_reducible refine gate_callee (f := 22) rfl ?_); refine goesL_ (some 27) rfl rfl Try.func22 (by kernel_rfl) rfl #[.slice A1 l1.length c1, .int .i64 0] rfl (by (try simp only [List.map_toArray, List.map_cons, List.map_nil]); first | done | rfl | (simp only [List.length_drop, List.length_take]; rfl)) ?_; (with_reducible refine (laws_wByte.calls _ _ l1 0 t211 _ ?side1 ?side2 A43.out).mono ?_); (case side1 => repeat (first | exact (Kd.C_below HR1.out HB.out) | (with_reducible refine Kd.C_alloc ?_ _) | (with_reducible refine Kd.C_drewN ?_ _) | (with_reducible refine Kd.C_drew ?_))); (case side2 => exact HC1.out); rintro e w' ⟨rfl, ⟨nd, rfl⟩⟩; refine ⟨_, rfl, ?_⟩; (try (rw [drewN_self wc]; generalize hq_ : World.drewN wc _ = wc; have n0_ : Aside0 (Kd.R (Kd.int .u8) 5 wc w.heap.size (fun k_ => some k_ ≠ (u207004 : Value).ownBlock) u199004 x199004_5) := ⟨by rw [← hq_]; exact (by (with_reducible repeat (first | apply Kd.R_alloc | apply Kd.R_drewN | apply Kd.R_drew)); exact HO_199004.out)⟩; have n1_ : Aside0 (Kd.R (Kd.int .u8) 5 wc w.heap.size (fun k_ => some k_ ≠ (u199004 : Value).ownBlock) u207004 x207004_30) := ⟨by rw [← hq_]; exact (by (with_reducible repeat (first | apply Kd.R_alloc | apply Kd.R_drewN | apply Kd.R_drew)); exact HO_207004.out)⟩; have n2_ : Aside0 (wc.heap[gb189]? = some (.cells #[.bool false, .int .u32 0, .bool false, .int .i64 0, .slice none 0 0] 25 (0, 0))) := ⟨by rw [← hq_]; exact (by (with_reducible repeat (first | refine blk_drewN ?_ _ | refine blk_drew ?_ | refine blk_alloc ?_ _)); exact BK189.out)⟩; have n3_ : Aside0 (wc.heap[gb190]? = some (.cells #[.bool false, .int .u32 0, .bool false, .int .i64 0, .slice none 0 0] 25 (0, 0))) := ⟨by rw [← hq_]; exact (by (with_reducible repeat (first | refine blk_drewN ?_ _ | refine blk_drew ?_ | refine blk_alloc ?_ _)); exact BK190.out)⟩; have n4_ : Aside0 (wc.heap[gb198]? = some (.cells #[.bool x199000_5, .int .u32 x199001_5, .bool x199002_5, .int .i64 x199003_5, u199004] 25 (0, 0))) := ⟨by rw [← hq_]; exact (by (with_reducible repeat (first | refine blk_drewN ?_ _ | refine blk_drew ?_ | refine blk_alloc ?_ _)); exact BK198.out)⟩; have n5_ : Aside0 (wc.heap[gb206]? = some (.cells #[.bool x207000_30, .int .u32 x207001_30, .bool x207002_30, .int .i64 x207003_30, u207004] 25 (0, 0))) := ⟨by rw [← hq_]; exact (by (with_reducible repeat (first | refine blk_drewN ?_ _ | refine blk_drew ?_ | refine blk_alloc ?_ _)); exact BK206.out)⟩; have n6_ : Aside0 (Below w.heap.size w wc) := ⟨by rw [← hq_]; exact (by repeat (first | (with_reducible first | exact HB.out | apply below_alloc | apply pw_below_drewN | apply below_drew1 | refine below_set ?_ GE189.out | refine below_set ?_ GE190.out | refine below_set ?_ GE198.out | refine below_set ?_ GE206.out) | exact HB.out))⟩; clear HO_199004 HO_207004 BK189 BK190 BK198 BK206 HB hq_; have HO_199004 := n0_; have HO_207004 := n1_; have BK189 := n2_; have BK190 := n3_; have BK198 := n4_; have BK206 := n5_; have HB := n6_; clear n0_ n1_ n2_ n3_ n4_ n5_ n6_))))
                have n0_ := Aside0.mk (Kd.R_drew HO_199004.out)
                have n1_ := Aside0.mk (Kd.R_drew HO_207004.out)
                have n2_ := Aside0.mk (blk_drew BK189.out)
                have n3_ := Aside0.mk (blk_drew BK190.out)
                have n4_ := Aside0.mk (blk_drew BK198.out)
                have n5_ := Aside0.mk (blk_drew BK206.out)
                have n6_ := Aside0.mk (below_drew1 HB.out)
                clear HO_199004
                clear HO_207004
                clear BK189
                clear BK190
                clear BK198
                clear BK206
                clear HB
                have HO_199004 := n0_
                have HO_207004 := n1_
                have BK189 := n2_
                have BK190 := n3_
                have BK198 := n4_
                have BK206 := n5_
                have HB := n6_
                clear n0_ n1_ n2_ n3_ n4_ n5_ n6_
                obtain ⟨Ao136, co136, eo136⟩ := Kd.R_slice HO_199004.out
                (first | subst eo136 | (injection eo136 with f1_ f2_ f3_; have f4_ := f1_.symm; have f5_ := f3_.symm; clear f1_ f2_ f3_; subst f4_; subst f5_))
                obtain ⟨Ao142, co142, eo142⟩ := Kd.R_slice HO_207004.out
                (first | subst eo142 | (injection eo142 with f1_ f2_ f3_; have f4_ := f1_.symm; have f5_ := f3_.symm; clear f1_ f2_ f3_; subst f4_; subst f5_))
                refine start_ (n := 4) (S := fun w' => w'.cell? ⟨gb198, 0, none⟩ = some (.bool x199000_5) ∧ w'.cell? ⟨gb198, 1, none⟩ = some (.int .u32 x199001_5) ∧ w'.cell? ⟨gb198, 2, none⟩ = some (.bool x199002_5) ∧ w'.cell? ⟨gb198, 3, none⟩ = some (.int .i64 x199003_5) ∧ w'.cell? ⟨gb198, 4, none⟩ = some (.slice Ao136 x199004_5.length co136) ∧ w'.cell? ⟨gb206, 0, none⟩ = some (.bool x207000_30) ∧ w'.cell? ⟨gb206, 1, none⟩ = some (.int .u32 x207001_30) ∧ w'.cell? ⟨gb206, 2, none⟩ = some (.bool x207002_30) ∧ w'.cell? ⟨gb206, 3, none⟩ = some (.int .i64 x207003_30) ∧ w'.cell? ⟨gb206, 4, none⟩ = some (.slice Ao142 x207004_30.length co142)) (ds := []) #[false, false, false, false] (by kernel_rfl) rfl rfl ⟨(blk_cell BK198.out 0).trans rfl, (blk_cell BK198.out 1).trans rfl, (blk_cell BK198.out 2).trans rfl, (blk_cell BK198.out 3).trans rfl, (blk_cell BK198.out 4).trans rfl, (blk_cell BK206.out 0).trans rfl, (blk_cell BK206.out 1).trans rfl, (blk_cell BK206.out 2).trans rfl, (blk_cell BK206.out 3).trans rfl, (blk_cell BK206.out 4).trans rfl⟩ (fun hHeld => ?_)
                generalize wc.drew = w131 at HO_199004 HO_207004 BK189 BK190 BK198 BK206 HB hHeld ⊢
                refine take_ (i := 0) (N := some 70) (v := ?_) (a' := ?_) #[true, false, false, false] rfl rfl (by kernel_rfl) (fun _ _ _ h => h) (Or.inl ⟨by rfl, ?_⟩) hHeld ?_ ?_
                rotate_left
                · rintro w' ⟨s0, s1, s2, s3, s4, s5, s6, s7, s8, s9⟩
                  go_simp
                  with_reducible rfl
                rotate_left
                · simp only [Act.put, List.setIfInBounds_toArray, List.set_cons_zero, List.set_cons_succ, i64_w, i32_w]
                  rfl
                refine take_ (i := 1) (N := some 71) (v := ?_) (a' := ?_) #[true, true, false, false] rfl rfl (by kernel_rfl) (fun _ _ _ h => h) (Or.inl ⟨by rfl, ?_⟩) hHeld ?_ ?_
                rotate_left
                · rintro w' ⟨s0, s1, s2, s3, s4, s5, s6, s7, s8, s9⟩
                  go_simp
                  with_reducible rfl
                rotate_left
                · simp only [Act.put, List.setIfInBounds_toArray, List.set_cons_zero, List.set_cons_succ, i64_w, i32_w]
                  rfl
                refine one_ (i := 2) (N := none) #[true, true, true, false] rfl rfl (by kernel_rfl) (by decide) (fun K hK => ?_)
                have hs132 : w131.cell? ⟨gb189, 0, none⟩ = some (.bool false) := (blk_cell BK189.out 0).trans rfl
                have hfs132 := blk_frozen BK189.out 0
                have hns132_1 := NB190_189.out
                have hns132_2 := NB198_189.out
                have hns132_3 := NB206_189.out
                have hms132_1 := NB189_190.out
                have hms132_2 := NB189_198.out
                have hms132_3 := NB189_206.out
                have hs133 : w131.cell? ⟨gb189, 1, none⟩ = some (.int .u32 0) := (blk_cell BK189.out 1).trans rfl
                have hfs133 := blk_frozen BK189.out 1
                have hns133_1 := NB190_189.out
                have hns133_2 := NB198_189.out
                have hns133_3 := NB206_189.out
                have hms133_1 := NB189_190.out
                have hms133_2 := NB189_198.out
                have hms133_3 := NB189_206.out
                have hs134 : w131.cell? ⟨gb189, 2, none⟩ = some (.bool false) := (blk_cell BK189.out 2).trans rfl
                have hfs134 := blk_frozen BK189.out 2
                have hns134_1 := NB190_189.out
                have hns134_2 := NB198_189.out
                have hns134_3 := NB206_189.out
                have hms134_1 := NB189_190.out
                have hms134_2 := NB189_198.out
                have hms134_3 := NB189_206.out
                have hs135 : w131.cell? ⟨gb189, 3, none⟩ = some (.int .i64 0) := (blk_cell BK189.out 3).trans rfl
                have hfs135 := blk_frozen BK189.out 3
                have hns135_1 := NB190_189.out
                have hns135_2 := NB198_189.out
                have hns135_3 := NB206_189.out
                have hms135_1 := NB189_190.out
                have hms135_2 := NB189_198.out
                have hms135_3 := NB189_206.out
                have hs137 : w131.cell? ⟨gb189, 4, none⟩ = some (.slice none 0 0) := (blk_cell BK189.out 4).trans rfl
                have hfs137 := blk_frozen BK189.out 4
                have hns137_1 := NB190_189.out
                have hns137_2 := NB198_189.out
                have hns137_3 := NB206_189.out
                have hms137_1 := NB189_190.out
                have hms137_2 := NB189_198.out
                have hms137_3 := NB189_206.out
                refine skip_ (w1 := ?_) (by rfl) rfl ?_ ?_
                rotate_left
                · go_simp
                  rfl
                refine hK.out _ _ ⟨((cell_far (p := ⟨gb189, _, none⟩) NB198_189.out _).trans (((cell_far (p := ⟨gb189, _, none⟩) NB198_189.out _).trans (((cell_far (p := ⟨gb189, _, none⟩) NB198_189.out _).trans (((cell_far (p := ⟨gb189, _, none⟩) NB198_189.out _).trans (((cell_far (p := ⟨gb189, _, none⟩) NB198_189.out _).trans (hHeld.1)))))))))), ((cell_far (p := ⟨gb189, _, none⟩) NB198_189.out _).trans (((cell_far (p := ⟨gb189, _, none⟩) NB198_189.out _).trans (((cell_far (p := ⟨gb189, _, none⟩) NB198_189.out _).trans (((cell_far (p := ⟨gb189, _, none⟩) NB198_189.out _).trans (((cell_far (p := ⟨gb189, _, none⟩) NB198_189.out _).trans (hHeld.2.1)))))))))), ((cell_far (p := ⟨gb189, _, none⟩) NB198_189.out _).trans (((cell_far (p := ⟨gb189, _, none⟩) NB198_189.out _).trans (((cell_far (p := ⟨gb189, _, none⟩) NB198_189.out _).trans (((cell_far (p := ⟨gb189, _, none⟩) NB198_189.out _).trans (((cell_far (p := ⟨gb189, _, none⟩) NB198_189.out _).trans (hHeld.2.2.1)))))))))), ((cell_far (p := ⟨gb189, _, none⟩) NB198_189.out _).trans (((cell_far (p := ⟨gb189, _, none⟩) NB198_189.out _).trans (((cell_far (p := ⟨gb189, _, none⟩) NB198_189.out _).trans (((cell_far (p := ⟨gb189, _, none⟩) NB198_189.out _).trans (((cell_far (p := ⟨gb189, _, none⟩) NB198_189.out _).trans (hHeld.2.2.2.1)))))))))), ((cell_far (p := ⟨gb189, _, none⟩) NB198_189.out _).trans (((cell_far (p := ⟨gb189, _, none⟩) NB198_189.out _).trans (((cell_far (p := ⟨gb189, _, none⟩) NB198_189.out _).trans (((cell_far (p := ⟨gb189, _, none⟩) NB198_189.out _).trans (((cell_far (p := ⟨gb189, _, none⟩) NB198_189.out _).trans (hHeld.2.2.2.2.1)))))))))), ((cell_far (p := ⟨gb189, _, none⟩) NB206_189.out _).trans (((cell_far (p := ⟨gb189, _, none⟩) NB206_189.out _).trans (((cell_far (p := ⟨gb189, _, none⟩) NB206_189.out _).trans (((cell_far (p := ⟨gb189, _, none⟩) NB206_189.out _).trans (((cell_far (p := ⟨gb189, _, none⟩) NB206_189.out _).trans (hHeld.2.2.2.2.2.1)))))))))), ((cell_far (p := ⟨gb189, _, none⟩) NB206_189.out _).trans (((cell_far (p := ⟨gb189, _, none⟩) NB206_189.out _).trans (((cell_far (p := ⟨gb189, _, none⟩) NB206_189.out _).trans (((cell_far (p := ⟨gb189, _, none⟩) NB206_189.out _).trans (((cell_far (p := ⟨gb189, _, none⟩) NB206_189.out _).trans (hHeld.2.2.2.2.2.2.1)))))))))), ((cell_far (p := ⟨gb189, _, none⟩) NB206_189.out _).trans (((cell_far (p := ⟨gb189, _, none⟩) NB206_189.out _).trans (((cell_far (p := ⟨gb189, _, none⟩) NB206_189.out _).trans (((cell_far (p := ⟨gb189, _, none⟩) NB206_189.out _).trans (((cell_far (p := ⟨gb189, _, none⟩) NB206_189.out _).trans (hHeld.2.2.2.2.2.2.2.1)))))))))), ((cell_far (p := ⟨gb189, _, none⟩) NB206_189.out _).trans (((cell_far (p := ⟨gb189, _, none⟩) NB206_189.out _).trans (((cell_far (p := ⟨gb189, _, none⟩) NB206_189.out _).trans (((cell_far (p := ⟨gb189, _, none⟩) NB206_189.out _).trans (((cell_far (p := ⟨gb189, _, none⟩) NB206_189.out _).trans (hHeld.2.2.2.2.2.2.2.2.1)))))))))), ((cell_far (p := ⟨gb189, _, none⟩) NB206_189.out _).trans (((cell_far (p := ⟨gb189, _, none⟩) NB206_189.out _).trans (((cell_far (p := ⟨gb189, _, none⟩) NB206_189.out _).trans (((cell_far (p := ⟨gb189, _, none⟩) NB206_189.out _).trans (((cell_far (p := ⟨gb189, _, none⟩) NB206_189.out _).trans (hHeld.2.2.2.2.2.2.2.2.2))))))))))⟩ (fun hHeld => ?_)
                clear hK K
                refine one_ (i := 3) (N := none) #[true, true, true, true] rfl rfl (by kernel_rfl) (by decide) (fun K hK => ?_)
                have hs138 : w131.cell? ⟨gb190, 0, none⟩ = some (.bool false) := (blk_cell BK190.out 0).trans rfl
                have hfs138 := blk_frozen BK190.out 0
                have hns138_0 := NB189_190.out
                have hns138_2 := NB198_190.out
                have hns138_3 := NB206_190.out
                have hms138_0 := NB190_189.out
                have hms138_2 := NB190_198.out
                have hms138_3 := NB190_206.out
                have hs139 : w131.cell? ⟨gb190, 1, none⟩ = some (.int .u32 0) := (blk_cell BK190.out 1).trans rfl
                have hfs139 := blk_frozen BK190.out 1
                have hns139_0 := NB189_190.out
                have hns139_2 := NB198_190.out
                have hns139_3 := NB206_190.out
                have hms139_0 := NB190_189.out
                have hms139_2 := NB190_198.out
                have hms139_3 := NB190_206.out
                have hs140 : w131.cell? ⟨gb190, 2, none⟩ = some (.bool false) := (blk_cell BK190.out 2).trans rfl
                have hfs140 := blk_frozen BK190.out 2
                have hns140_0 := NB189_190.out
                have hns140_2 := NB198_190.out
                have hns140_3 := NB206_190.out
                have hms140_0 := NB190_189.out
                have hms140_2 := NB190_198.out
                have hms140_3 := NB190_206.out
                have hs141 : w131.cell? ⟨gb190, 3, none⟩ = some (.int .i64 0) := (blk_cell BK190.out 3).trans rfl
                have hfs141 := blk_frozen BK190.out 3
                have hns141_0 := NB189_190.out
                have hns141_2 := NB198_190.out
                have hns141_3 := NB206_190.out
                have hms141_0 := NB190_189.out
                have hms141_2 := NB190_198.out
                have hms141_3 := NB190_206.out
                have hs143 : w131.cell? ⟨gb190, 4, none⟩ = some (.slice none 0 0) := (blk_cell BK190.out 4).trans rfl
                have hfs143 := blk_frozen BK190.out 4
                have hns143_0 := NB189_190.out
                have hns143_2 := NB198_190.out
                have hns143_3 := NB206_190.out
                have hms143_0 := NB190_189.out
                have hms143_2 := NB190_198.out
                have hms143_3 := NB190_206.out
                refine skip_ (w1 := ?_) (by rfl) rfl ?_ ?_
                rotate_left
                · go_simp
                  rfl
                refine hK.out _ _ ⟨((cell_far (p := ⟨gb190, _, none⟩) NB198_190.out _).trans (((cell_far (p := ⟨gb190, _, none⟩) NB198_190.out _).trans (((cell_far (p := ⟨gb190, _, none⟩) NB198_190.out _).trans (((cell_far (p := ⟨gb190, _, none⟩) NB198_190.out _).trans (((cell_far (p := ⟨gb190, _, none⟩) NB198_190.out _).trans (hHeld.1)))))))))), ((cell_far (p := ⟨gb190, _, none⟩) NB198_190.out _).trans (((cell_far (p := ⟨gb190, _, none⟩) NB198_190.out _).trans (((cell_far (p := ⟨gb190, _, none⟩) NB198_190.out _).trans (((cell_far (p := ⟨gb190, _, none⟩) NB198_190.out _).trans (((cell_far (p := ⟨gb190, _, none⟩) NB198_190.out _).trans (hHeld.2.1)))))))))), ((cell_far (p := ⟨gb190, _, none⟩) NB198_190.out _).trans (((cell_far (p := ⟨gb190, _, none⟩) NB198_190.out _).trans (((cell_far (p := ⟨gb190, _, none⟩) NB198_190.out _).trans (((cell_far (p := ⟨gb190, _, none⟩) NB198_190.out _).trans (((cell_far (p := ⟨gb190, _, none⟩) NB198_190.out _).trans (hHeld.2.2.1)))))))))), ((cell_far (p := ⟨gb190, _, none⟩) NB198_190.out _).trans (((cell_far (p := ⟨gb190, _, none⟩) NB198_190.out _).trans (((cell_far (p := ⟨gb190, _, none⟩) NB198_190.out _).trans (((cell_far (p := ⟨gb190, _, none⟩) NB198_190.out _).trans (((cell_far (p := ⟨gb190, _, none⟩) NB198_190.out _).trans (hHeld.2.2.2.1)))))))))), ((cell_far (p := ⟨gb190, _, none⟩) NB198_190.out _).trans (((cell_far (p := ⟨gb190, _, none⟩) NB198_190.out _).trans (((cell_far (p := ⟨gb190, _, none⟩) NB198_190.out _).trans (((cell_far (p := ⟨gb190, _, none⟩) NB198_190.out _).trans (((cell_far (p := ⟨gb190, _, none⟩) NB198_190.out _).trans (hHeld.2.2.2.2.1)))))))))), ((cell_far (p := ⟨gb190, _, none⟩) NB206_190.out _).trans (((cell_far (p := ⟨gb190, _, none⟩) NB206_190.out _).trans (((cell_far (p := ⟨gb190, _, none⟩) NB206_190.out _).trans (((cell_far (p := ⟨gb190, _, none⟩) NB206_190.out _).trans (((cell_far (p := ⟨gb190, _, none⟩) NB206_190.out _).trans (hHeld.2.2.2.2.2.1)))))))))), ((cell_far (p := ⟨gb190, _, none⟩) NB206_190.out _).trans (((cell_far (p := ⟨gb190, _, none⟩) NB206_190.out _).trans (((cell_far (p := ⟨gb190, _, none⟩) NB206_190.out _).trans (((cell_far (p := ⟨gb190, _, none⟩) NB206_190.out _).trans (((cell_far (p := ⟨gb190, _, none⟩) NB206_190.out _).trans (hHeld.2.2.2.2.2.2.1)))))))))), ((cell_far (p := ⟨gb190, _, none⟩) NB206_190.out _).trans (((cell_far (p := ⟨gb190, _, none⟩) NB206_190.out _).trans (((cell_far (p := ⟨gb190, _, none⟩) NB206_190.out _).trans (((cell_far (p := ⟨gb190, _, none⟩) NB206_190.out _).trans (((cell_far (p := ⟨gb190, _, none⟩) NB206_190.out _).trans (hHeld.2.2.2.2.2.2.2.1)))))))))), ((cell_far (p := ⟨gb190, _, none⟩) NB206_190.out _).trans (((cell_far (p := ⟨gb190, _, none⟩) NB206_190.out _).trans (((cell_far (p := ⟨gb190, _, none⟩) NB206_190.out _).trans (((cell_far (p := ⟨gb190, _, none⟩) NB206_190.out _).trans (((cell_far (p := ⟨gb190, _, none⟩) NB206_190.out _).trans (hHeld.2.2.2.2.2.2.2.2.1)))))))))), ((cell_far (p := ⟨gb190, _, none⟩) NB206_190.out _).trans (((cell_far (p := ⟨gb190, _, none⟩) NB206_190.out _).trans (((cell_far (p := ⟨gb190, _, none⟩) NB206_190.out _).trans (((cell_far (p := ⟨gb190, _, none⟩) NB206_190.out _).trans (((cell_far (p := ⟨gb190, _, none⟩) NB206_190.out _).trans (hHeld.2.2.2.2.2.2.2.2.2))))))))))⟩ (fun hHeld => ?_)
                clear hK K
                refine done_ (by kernel_rfl) ?_
                try go_wp2
                refine bodyPost_ret (results_cc rfl _ _ gb189 gb190 25 25 #[.bool x199000_5, .int .u32 x199001_5, .bool x199002_5, .int .i64 x199003_5, .slice Ao136 x199004_5.length co136] #[.bool x207000_30, .int .u32 x207001_30, .bool x207002_30, .int .i64 x207003_30, .slice Ao142 x207004_30.length co142] (0, 0) (0, 0) _ _ rfl (by (with_reducible repeat (first | refine blk_drewN ?_ _ | refine blk_drew ?_ | refine blk_alloc ?_ _)); refine blk_far ?_ NB189_190.out _; (with_reducible repeat (first | refine blk_drewN ?_ _ | refine blk_drew ?_ | refine blk_alloc ?_ _)); refine blk_far ?_ NB189_190.out _; (with_reducible repeat (first | refine blk_drewN ?_ _ | refine blk_drew ?_ | refine blk_alloc ?_ _)); refine blk_far ?_ NB189_190.out _; (with_reducible repeat (first | refine blk_drewN ?_ _ | refine blk_drew ?_ | refine blk_alloc ?_ _)); refine blk_far ?_ NB189_190.out _; (with_reducible repeat (first | refine blk_drewN ?_ _ | refine blk_drew ?_ | refine blk_alloc ?_ _)); refine blk_far ?_ NB189_190.out _; (with_reducible repeat (first | refine blk_drewN ?_ _ | refine blk_drew ?_ | refine blk_alloc ?_ _)); refine blk_put (cs := #[.bool x199000_5, .int .u32 x199001_5, .bool x199002_5, .int .i64 x199003_5, .slice none 0 0]) ?_ 4 _ rfl; (with_reducible repeat (first | refine blk_drewN ?_ _ | refine blk_drew ?_ | refine blk_alloc ?_ _)); refine blk_put (cs := #[.bool x199000_5, .int .u32 x199001_5, .bool x199002_5, .int .i64 0, .slice none 0 0]) ?_ 3 _ rfl; (with_reducible repeat (first | refine blk_drewN ?_ _ | refine blk_drew ?_ | refine blk_alloc ?_ _)); refine blk_put (cs := #[.bool x199000_5, .int .u32 x199001_5, .bool false, .int .i64 0, .slice none 0 0]) ?_ 2 _ rfl; (with_reducible repeat (first | refine blk_drewN ?_ _ | refine blk_drew ?_ | refine blk_alloc ?_ _)); refine blk_put (cs := #[.bool x199000_5, .int .u32 0, .bool false, .int .i64 0, .slice none 0 0]) ?_ 1 _ rfl; (with_reducible repeat (first | refine blk_drewN ?_ _ | refine blk_drew ?_ | refine blk_alloc ?_ _)); refine blk_put (cs := #[.bool false, .int .u32 0, .bool false, .int .i64 0, .slice none 0 0]) ?_ 0 _ rfl; (with_reducible repeat (first | refine blk_drewN ?_ _ | refine blk_drew ?_ | refine blk_alloc ?_ _)); exact BK189.out) Try.underlying25 rfl (by kernel_rfl) rfl (by (with_reducible repeat (first | refine blk_drewN ?_ _ | refine blk_drew ?_ | refine blk_alloc ?_ _)); refine blk_put (cs := #[.bool x207000_30, .int .u32 x207001_30, .bool x207002_30, .int .i64 x207003_30, .slice none 0 0]) ?_ 4 _ rfl; (with_reducible repeat (first | refine blk_drewN ?_ _ | refine blk_drew ?_ | refine blk_alloc ?_ _)); refine blk_put (cs := #[.bool x207000_30, .int .u32 x207001_30, .bool x207002_30, .int .i64 0, .slice none 0 0]) ?_ 3 _ rfl; (with_reducible repeat (first | refine blk_drewN ?_ _ | refine blk_drew ?_ | refine blk_alloc ?_ _)); refine blk_put (cs := #[.bool x207000_30, .int .u32 x207001_30, .bool false, .int .i64 0, .slice none 0 0]) ?_ 2 _ rfl; (with_reducible repeat (first | refine blk_drewN ?_ _ | refine blk_drew ?_ | refine blk_alloc ?_ _)); refine blk_put (cs := #[.bool x207000_30, .int .u32 0, .bool false, .int .i64 0, .slice none 0 0]) ?_ 1 _ rfl; (with_reducible repeat (first | refine blk_drewN ?_ _ | refine blk_drew ?_ | refine blk_alloc ?_ _)); refine blk_put (cs := #[.bool false, .int .u32 0, .bool false, .int .i64 0, .slice none 0 0]) ?_ 0 _ rfl; (with_reducible repeat (first | refine blk_drewN ?_ _ | refine blk_drew ?_ | refine blk_alloc ?_ _)); refine blk_far ?_ NB190_189.out _; (with_reducible repeat (first | refine blk_drewN ?_ _ | refine blk_drew ?_ | refine blk_alloc ?_ _)); refine blk_far ?_ NB190_189.out _; (with_reducible repeat (first | refine blk_drewN ?_ _ | refine blk_drew ?_ | refine blk_alloc ?_ _)); refine blk_far ?_ NB190_189.out _; (with_reducible repeat (first | refine blk_drewN ?_ _ | refine blk_drew ?_ | refine blk_alloc ?_ _)); refine blk_far ?_ NB190_189.out _; (with_reducible repeat (first | refine blk_drewN ?_ _ | refine blk_drew ?_ | refine blk_alloc ?_ _)); refine blk_far ?_ NB190_189.out _; (with_reducible repeat (first | refine blk_drewN ?_ _ | refine blk_drew ?_ | refine blk_alloc ?_ _)); exact BK190.out) Try.underlying25 rfl (by kernel_rfl)) rfl ?_
                exact ⟨_, _, by first | rfl | (simp [errW_none, errW_some] <;> rfl) | (simp [*, errW_none, errW_some] <;> rfl), by (with_reducible repeat (first | apply Kd.R_alloc | apply Kd.R_drewN | apply Kd.R_drew)); exact Kd.R_mono (Kd.R_far (p := ⟨gb190, 4, none⟩) (Kd.R_far (p := ⟨gb190, 3, none⟩) (Kd.R_far (p := ⟨gb190, 2, none⟩) (Kd.R_far (p := ⟨gb190, 1, none⟩) (Kd.R_far (p := ⟨gb190, 0, none⟩) (Kd.R_far (p := ⟨gb189, 4, none⟩) (Kd.R_far (p := ⟨gb189, 3, none⟩) (Kd.R_far (p := ⟨gb189, 2, none⟩) (Kd.R_far (p := ⟨gb189, 1, none⟩) (Kd.R_far (p := ⟨gb189, 0, none⟩) (Kd.R_types (Kd.R_types HO_199004.out BK189.out (by decide)) BK190.out (by decide)) (fun _ hk => hk.1.2) (.bool x199000_5)) (fun _ hk => hk.1.2) (.int .u32 x199001_5)) (fun _ hk => hk.1.2) (.bool x199002_5)) (fun _ hk => hk.1.2) (.int .i64 x199003_5)) (fun _ hk => hk.1.2) (.slice Ao136 x199004_5.length co136)) (fun _ hk => hk.2) (.bool x207000_30)) (fun _ hk => hk.2) (.int .u32 x207001_30)) (fun _ hk => hk.2) (.bool x207002_30)) (fun _ hk => hk.2) (.int .i64 x207003_30)) (fun _ hk => hk.2) (.slice Ao142 x207004_30.length co142)) (fun _ hk => hk.1.1), by (with_reducible repeat (first | apply Kd.R_alloc | apply Kd.R_drewN | apply Kd.R_drew)); exact Kd.R_mono (Kd.R_far (p := ⟨gb190, 4, none⟩) (Kd.R_far (p := ⟨gb190, 3, none⟩) (Kd.R_far (p := ⟨gb190, 2, none⟩) (Kd.R_far (p := ⟨gb190, 1, none⟩) (Kd.R_far (p := ⟨gb190, 0, none⟩) (Kd.R_far (p := ⟨gb189, 4, none⟩) (Kd.R_far (p := ⟨gb189, 3, none⟩) (Kd.R_far (p := ⟨gb189, 2, none⟩) (Kd.R_far (p := ⟨gb189, 1, none⟩) (Kd.R_far (p := ⟨gb189, 0, none⟩) (Kd.R_types (Kd.R_types HO_207004.out BK189.out (by decide)) BK190.out (by decide)) (fun _ hk => hk.1.2) (.bool x199000_5)) (fun _ hk => hk.1.2) (.int .u32 x199001_5)) (fun _ hk => hk.1.2) (.bool x199002_5)) (fun _ hk => hk.1.2) (.int .i64 x199003_5)) (fun _ hk => hk.1.2) (.slice Ao136 x199004_5.length co136)) (fun _ hk => hk.2) (.bool x207000_30)) (fun _ hk => hk.2) (.int .u32 x207001_30)) (fun _ hk => hk.2) (.bool x207002_30)) (fun _ hk => hk.2) (.int .i64 x207003_30)) (fun _ hk => hk.2) (.slice Ao142 x207004_30.length co142)) (fun _ hk => hk.1.1), by repeat (first | (with_reducible first | exact HB.out | apply below_alloc | apply pw_below_drewN | apply below_drew1 | refine below_set ?_ GE189.out | refine below_set ?_ GE190.out | refine below_set ?_ GE198.out | refine below_set ?_ GE206.out) | exact HB.out)⟩
end Go.Proofs.Ytdoclpgciadjaaa.P
