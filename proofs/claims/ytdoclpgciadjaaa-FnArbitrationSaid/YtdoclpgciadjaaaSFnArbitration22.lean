/- Texts of the proof of FnArbitration, joined. -/
import Derived.Test.YtdoclpgciadjaaaSFnArbitration21
namespace Go.Proofs.Ytdoclpgciadjaaa.P
open Go.RowKit Go.Proofs.YtdoclpgciadjaaaW.PrintWords Go.Proofs.YtdoclpgciadjaaaW.PrintLast Go.Proofs.YtdoclpgciadjaaaW.PrintMore
set_option linter.unusedVariables false
set_option linter.unusedSimpArgs false
mutual
def spec_l1genFrame.j0 : Nat → List Int → Int → Int → Bool → Int → Bool → Int → List Int → Option (Bool × Int × Bool × Int × List Int × Int × Int)
  | 0, _, _, _, _, _, _, _, _ => none
  | k + 1, x1000, x1001, x1002, x138000, x138001, x138002, x138003, x138004 => (spec_l1genId.f k x1000 x1001 x1002 x138000).bind fun bt144 => ((spec_l1dataLen.f x138000 bt144.1 x138002 x138003 x138004).bind fun t147 => (spec_l1genFrame.l0 k t147 0 x1000 bt144.2.1 bt144.2.2 x138000 bt144.1 x138002 x138003 x138004))
def spec_l1genFrame.l0 : Nat → Int → Int → List Int → Int → Int → Bool → Int → Bool → Int → List Int → Option (Bool × Int × Bool × Int × List Int × Int × Int)
  | 0, _, _, _, _, _, _, _, _, _, _ => none
  | k + 1, x4, x5, x1000, x1001, x1002, x138000, x138001, x138002, x138003, x138004 => if x5 < x4 then ((spec_l1genByte.f x1000 x1001 x1002).bind fun bt148 => (if x138004.length < 140737488355328 then (spec_l1genFrame.l0 k x4 (wrap64 (x5 + 1)) x1000 bt148.2.1 bt148.2.2 x138000 x138001 x138002 x138003 (x138004 ++ [bt148.1])) else (none))) else (some (x138000, x138001, x138002, x138003, x138004, x1001, x1002))
end
def spec_l1genFrame.f (k : Nat) (s0_0 : List Int) (s0_1 : Int) (s0_2 : Int) : Option (Bool × Int × Bool × Int × List Int × Int × Int) := (spec_l1src_n.f s0_0 s0_1 s0_2 2).bind fun bt125 => ((spec_l1src_n.f s0_0 bt125.2.1 bt125.2.2 4).bind fun bt128 => ((spec_l1src_n.f s0_0 bt128.2.1 bt128.2.2 9).bind fun bt131 => ((some (([] : List Int) : List Int)).bind fun y134 => ((spec_l1src_n.f s0_0 bt131.2.1 bt131.2.2 6).bind fun bt138 => (if bt138.1 = 0 then ((spec_l1src_n.f s0_0 bt138.2.1 bt138.2.2 16).bind fun bt141 => (spec_l1genFrame.j0 k s0_0 bt141.2.1 bt141.2.2 (bt125.1 == 1) 0 (bt128.1 == 0) bt141.1 y134)) else (spec_l1genFrame.j0 k s0_0 bt138.2.1 bt138.2.2 (bt125.1 == 1) 0 (bt128.1 == 0) bt131.1 y134))))))
theorem spec_l1genFrame.mono_l : ∀ k, (∀ y0 y1 y2 y3 y4 y5 y6 y7, LeO (spec_l1genFrame.j0 k y0 y1 y2 y3 y4 y5 y6 y7) (spec_l1genFrame.j0 (k + 1) y0 y1 y2 y3 y4 y5 y6 y7)) ∧ (∀ y0 y1 y2 y3 y4 y5 y6 y7 y8 y9, LeO (spec_l1genFrame.l0 k y0 y1 y2 y3 y4 y5 y6 y7 y8 y9) (spec_l1genFrame.l0 (k + 1) y0 y1 y2 y3 y4 y5 y6 y7 y8 y9))
  | 0 => ⟨fun _ _ _ _ _ _ _ _ r h => by simp [spec_l1genFrame.j0] at h, fun _ _ _ _ _ _ _ _ _ _ r h => by simp [spec_l1genFrame.l0] at h⟩
  | k + 1 => by
    obtain ⟨ih0, ih1⟩ := spec_l1genFrame.mono_l k
    refine ⟨?_, ?_⟩
    · intro y0 y1 y2 y3 y4 y5 y6 y7
      unfold spec_l1genFrame.j0
      repeat' first
      | (with_reducible exact ih0 _ _ _ _ _ _ _ _)
      | (with_reducible exact ih1 _ _ _ _ _ _ _ _ _ _)
      | (with_reducible exact spec_l1genId.mono _ _ _ _ _)
      | (with_reducible exact LeO.refl _)
      | (with_reducible exact LeO.none _)
      | (with_reducible refine LeO.ite ?_ ?_)
      | (with_reducible refine LeO.bind ?_ (fun _ => ?_))
      | exact ih0 _ _ _ _ _ _ _ _
      | exact ih1 _ _ _ _ _ _ _ _ _ _
      | exact spec_l1genId.mono _ _ _ _ _
      | exact LeO.none _
      | refine LeO.ite ?_ ?_
      | refine LeO.bind ?_ (fun _ => ?_)
    · intro y0 y1 y2 y3 y4 y5 y6 y7 y8 y9
      unfold spec_l1genFrame.l0
      repeat' first
      | (with_reducible exact ih0 _ _ _ _ _ _ _ _)
      | (with_reducible exact ih1 _ _ _ _ _ _ _ _ _ _)
      | (with_reducible exact spec_l1genId.mono _ _ _ _ _)
      | (with_reducible exact LeO.refl _)
      | (with_reducible exact LeO.none _)
      | (with_reducible refine LeO.ite ?_ ?_)
      | (with_reducible refine LeO.bind ?_ (fun _ => ?_))
      | exact ih0 _ _ _ _ _ _ _ _
      | exact ih1 _ _ _ _ _ _ _ _ _ _
      | exact spec_l1genId.mono _ _ _ _ _
      | exact LeO.none _
      | refine LeO.ite ?_ ?_
      | refine LeO.bind ?_ (fun _ => ?_)
theorem spec_l1genFrame.mono : ∀ a0 a1 a2 k, LeO (spec_l1genFrame.f k a0 a1 a2) (spec_l1genFrame.f (k + 1) a0 a1 a2) := by
  intro a0 a1 a2 k
  obtain ⟨ih0, ih1⟩ := spec_l1genFrame.mono_l k
  unfold spec_l1genFrame.f
  repeat' first
      | (with_reducible exact ih0 _ _ _ _ _ _ _ _)
      | (with_reducible exact ih1 _ _ _ _ _ _ _ _ _ _)
      | (with_reducible exact spec_l1genId.mono _ _ _ _ _)
      | (with_reducible exact LeO.refl _)
      | (with_reducible exact LeO.none _)
      | (with_reducible refine LeO.ite ?_ ?_)
      | (with_reducible refine LeO.bind ?_ (fun _ => ?_))
      | exact ih0 _ _ _ _ _ _ _ _
      | exact ih1 _ _ _ _ _ _ _ _ _ _
      | exact spec_l1genId.mono _ _ _ _ _
      | exact LeO.none _
      | refine LeO.ite ?_ ?_
      | refine LeO.bind ?_ (fun _ => ?_)
def spec_l1genFrame.T9 : Bool × List (List Nat × List Nat) := (true, [([], []), ([0], [0]), ([], []), ([2], [2]), ([3], [3]), ([1, 4, 3], [1, 4]), ([0, 1, 2, 3, 4, 5], []), ([6, 5, 5, 0, 1, 2, 3, 4, 5], [5, 6])])
def spec_l1genFrame.B9 : List Nat := [0, 1, 0, 4, 12, 31, 63, 127]
theorem spec_l1genFrame.tab9 : rtab .any (opsOf Try.f136 9) = spec_l1genFrame.T9 := by kernel_rfl
theorem spec_l1genFrame.bits9 : waitsOk spec_l1genFrame.T9.2 spec_l1genFrame.B9 = true := by kernel_rfl
set_option maxHeartbeats 8000000 in
set_option maxRecDepth 100000 in
theorem spec_l1genFrame.calls (k : Nat) (g : Nat) (s0_0 : List Int) (s0_1 : Int) (s0_2 : Int) (r1 : Bool) (r2 : Int) (r3 : Bool) (r4 : Int) (r5 : List Int) (r6 : Int) (r7 : Int) (w0 w : World) (hI : IsS172 w0 w g s0_0 s0_1 s0_2) (hB : Below w0.heap.size w0 w) (h : spec_l1genFrame.f k s0_0 s0_1 s0_2 = some (r1, r2, r3, r4, r5, r6, r7)) :
    Calls Try.prog 136 #[.pointer (some ⟨g, 0, none⟩)] w fun e w' => ∃ v4_ : Value, e = .returned (.agg #[.bool r1, .int .u32 r2, .bool r3, .int .i64 r4, v4_]) ∧ Kd.R (Kd.int .u8) 5 w' w.heap.size (fun _ => True) v4_ r5 ∧ IsS172 w0 w' g s0_0 r6 r7 ∧ Below w0.heap.size w0 w' ∧ KeepBut w w' g none := by
  have hu25 := Try.underlying25
  have HI0 := Aside0.mk hI
  have HK := Aside0.mk (KeepBut.refl w g none)
  have HL := Aside0.mk hB.size
  clear hI
  have HW0 := Aside0.mk hB.size
  have HB := Aside0.mk hB
  clear hB
  have H : ((spec_l1src_n.f s0_0 s0_1 s0_2 2).bind fun bt125 => ((spec_l1src_n.f s0_0 bt125.2.1 bt125.2.2 4).bind fun bt128 => ((spec_l1src_n.f s0_0 bt128.2.1 bt128.2.2 9).bind fun bt131 => ((some (([] : List Int) : List Int)).bind fun y134 => ((spec_l1src_n.f s0_0 bt131.2.1 bt131.2.2 6).bind fun bt138 => (if bt138.1 = 0 then ((spec_l1src_n.f s0_0 bt138.2.1 bt138.2.2 16).bind fun bt141 => (spec_l1genFrame.j0 k s0_0 bt141.2.1 bt141.2.2 (bt125.1 == 1) 0 (bt128.1 == 0) bt141.1 y134)) else (spec_l1genFrame.j0 k s0_0 bt138.2.1 bt138.2.2 (bt125.1 == 1) 0 (bt128.1 == 0) bt131.1 y134))))))) = some (r1, r2, r3, r4, r5, r6, r7) := h
  clear h
  replace H := Option.bind_eq_some_iff.mp H
  obtain ⟨⟨t125, t126, t127⟩, A20, H⟩ := H
  replace H : ((spec_l1src_n.f s0_0 t126 t127 4).bind fun bt128 => ((spec_l1src_n.f s0_0 bt128.2.1 bt128.2.2 9).bind fun bt131 => ((some (([] : List Int) : List Int)).bind fun y134 => ((spec_l1src_n.f s0_0 bt131.2.1 bt131.2.2 6).bind fun bt138 => (if bt138.1 = 0 then ((spec_l1src_n.f s0_0 bt138.2.1 bt138.2.2 16).bind fun bt141 => (spec_l1genFrame.j0 k s0_0 bt141.2.1 bt141.2.2 (t125 == 1) 0 (bt128.1 == 0) bt141.1 y134)) else (spec_l1genFrame.j0 k s0_0 bt138.2.1 bt138.2.2 (t125 == 1) 0 (bt128.1 == 0) bt131.1 y134)))))) = some (r1, r2, r3, r4, r5, r6, r7) := H
  have A2 := Aside0.mk A20
  clear A20
  replace H := Option.bind_eq_some_iff.mp H
  obtain ⟨⟨t128, t129, t130⟩, A30, H⟩ := H
  replace H : ((spec_l1src_n.f s0_0 t129 t130 9).bind fun bt131 => ((some (([] : List Int) : List Int)).bind fun y134 => ((spec_l1src_n.f s0_0 bt131.2.1 bt131.2.2 6).bind fun bt138 => (if bt138.1 = 0 then ((spec_l1src_n.f s0_0 bt138.2.1 bt138.2.2 16).bind fun bt141 => (spec_l1genFrame.j0 k s0_0 bt141.2.1 bt141.2.2 (t125 == 1) 0 (t128 == 0) bt141.1 y134)) else (spec_l1genFrame.j0 k s0_0 bt138.2.1 bt138.2.2 (t125 == 1) 0 (t128 == 0) bt131.1 y134))))) = some (r1, r2, r3, r4, r5, r6, r7) := H
  have A3 := Aside0.mk A30
  clear A30
  replace H := Option.bind_eq_some_iff.mp H
  obtain ⟨⟨t131, t132, t133⟩, A40, H⟩ := H
  replace H : ((some (([] : List Int) : List Int)).bind fun y134 => ((spec_l1src_n.f s0_0 t132 t133 6).bind fun bt138 => (if bt138.1 = 0 then ((spec_l1src_n.f s0_0 bt138.2.1 bt138.2.2 16).bind fun bt141 => (spec_l1genFrame.j0 k s0_0 bt141.2.1 bt141.2.2 (t125 == 1) 0 (t128 == 0) bt141.1 y134)) else (spec_l1genFrame.j0 k s0_0 bt138.2.1 bt138.2.2 (t125 == 1) 0 (t128 == 0) t131 y134)))) = some (r1, r2, r3, r4, r5, r6, r7) := H
  have A4 := Aside0.mk A40
  clear A40
  obtain ⟨y134, hy134⟩ : ∃ y_ : List Int, y_ = (([] : List Int)) := ⟨_, rfl⟩
  replace H : ((spec_l1src_n.f s0_0 t132 t133 6).bind fun bt138 => (if bt138.1 = 0 then ((spec_l1src_n.f s0_0 bt138.2.1 bt138.2.2 16).bind fun bt141 => (spec_l1genFrame.j0 k s0_0 bt141.2.1 bt141.2.2 (t125 == 1) 0 (t128 == 0) bt141.1 y134)) else (spec_l1genFrame.j0 k s0_0 bt138.2.1 bt138.2.2 (t125 == 1) 0 (t128 == 0) t131 y134))) = some (r1, r2, r3, r4, r5, r6, r7) := by first | (rw [hy134]; with_reducible exact H) | (have H2_ := (Option.bind_some _ _).symm.trans H; rw [hy134]; with_reducible exact H2_) | (have H2_ := (Option.bind_some _ _).symm.trans H; with_reducible exact H2_) | with_reducible exact H | (rw [hy134]; exact H) | exact H
  have Ny134 := Aside0.mk hy134
  clear hy134
  replace H := Option.bind_eq_some_iff.mp H
  obtain ⟨⟨t138, t139, t140⟩, A50, H⟩ := H
  replace H : (if t138 = 0 then ((spec_l1src_n.f s0_0 t139 t140 16).bind fun bt141 => (spec_l1genFrame.j0 k s0_0 bt141.2.1 bt141.2.2 (t125 == 1) 0 (t128 == 0) bt141.1 y134)) else (spec_l1genFrame.j0 k s0_0 t139 t140 (t125 == 1) 0 (t128 == 0) t131 y134)) = some (r1, r2, r3, r4, r5, r6, r7) := H
  have A5 := Aside0.mk A50
  clear A50
  have HC6 := Aside0.mk H
  clear H
  go_enter Try.func136, Try.ntmps136
  go_upto_if 18 with (first | ((with_reducible refine gate_dst (N := 2) rfl ?_); refine box_event ?hg (N := 2) ?hd (cs := #[.bool false, .int .u32 0, .bool false, .int .i64 0, .slice none 0 0]) (t := 25) ?hr ?_; (case hd => rfl); (case hg => rfl); (case hr => first | (go_simp; done) | (go_simp; rfl)); intro gb124 hg w7 hbox hb; have n0_ := Aside0.mk (IsS172.below (by repeat (first | (with_reducible first | exact HI0.out | apply IsS172.alloc | apply IsS172.drewN | apply IsS172.drew | apply IsS172.set_1 | apply IsS172.set_2) | exact HI0.out)) hb); have n1_ := Aside0.mk (KeepBut.trans (by repeat (first | (with_reducible first | exact HK.out | apply KeepBut.set_ | apply keep_drewN | apply keep_drew | apply keep_alloc) | exact HK.out)) (KeepBut.of_below hb g none) (.inl rfl)); have n2_ := Aside0.mk (below_step (by repeat (first | (with_reducible first | exact HB.out | apply below_alloc | apply pw_below_drewN | apply below_drew1 | refine below_set ?_ (IsS172.ge HI0.out)) | exact HB.out)) hb); have n3_ := Aside0.mk (hbox); have n4_ := Aside0.mk ((by rw [hg]; exact (keep_size (w := w) (g := g) (row := none) (by repeat (first | (with_reducible first | exact HK.out | apply KeepBut.set_ | apply keep_drewN | apply keep_drew | apply keep_alloc) | exact HK.out))) : w.heap.size ≤ gb124)); have n5_ := Aside0.mk ((Nat.le_trans HW0.out (by rw [hg]; exact (keep_size (w := w) (g := g) (row := none) (by repeat (first | (with_reducible first | exact HK.out | apply KeepBut.set_ | apply keep_drewN | apply keep_drew | apply keep_alloc) | exact HK.out))) : w.heap.size ≤ gb124) : w0.heap.size ≤ gb124)); have n6_ := Aside0.mk ((by rw [hg]; exact Nat.ne_of_lt (IsS172.lt (show IsS172 w0 _ g s0_0 s0_1 s0_2 from by repeat (first | (with_reducible first | exact HI0.out | apply IsS172.alloc | apply IsS172.drewN | apply IsS172.drew | apply IsS172.set_1 | apply IsS172.set_2) | exact HI0.out))) : g ≠ gb124)); have n7_ := Aside0.mk ((by rw [hg]; exact Nat.ne_of_gt (IsS172.lt (show IsS172 w0 _ g s0_0 s0_1 s0_2 from by repeat (first | (with_reducible first | exact HI0.out | apply IsS172.alloc | apply IsS172.drewN | apply IsS172.drew | apply IsS172.set_1 | apply IsS172.set_2) | exact HI0.out))) : gb124 ≠ g)); clear HI0; clear HK; clear HB; have HI0 := n0_; have HK := n1_; have HB := n2_; have BK124 := n3_; have GW124 := n4_; have GE124 := n5_; have NB0_124 := n6_; have NB124_0 := n7_; clear n0_ n1_ n2_ n3_ n4_ n5_ n6_ n7_; clear hb hbox hg) | ((with_reducible refine gate_callee (f := 137) rfl ?_); refine goesL_ (some 7) rfl rfl Try.func137 (by kernel_rfl) rfl #[.pointer (some ⟨g, 0, none⟩), .int .i64 2] rfl (by (try simp only [List.map_toArray, List.map_cons, List.map_nil]); first | done | rfl | (simp only [List.length_drop, List.length_take]; rfl)) ?_; (with_reducible refine (spec_l1src_n.calls g s0_0 s0_1 s0_2 2 t125 t126 t127 w0 _ ?side1 ?side2 A2.out).mono ?_); (case side1 => repeat (first | (with_reducible first | exact HI0.out | apply IsS172.alloc | apply IsS172.drewN | apply IsS172.drew | apply IsS172.set_1 | apply IsS172.set_2 | refine IsS172.far ?_ NB0_124.out _) | exact HI0.out)); (case side2 => repeat (first | (with_reducible first | exact HB.out | apply below_alloc | apply pw_below_drewN | apply below_drew1 | refine below_set ?_ (IsS172.ge HI0.out) | refine below_set ?_ GE124.out) | exact HB.out)); rintro e w8 ⟨rfl, hi, hb, hk⟩; refine ⟨_, rfl, ?_⟩; have n0_ := Aside0.mk (KeepBut.blk hk (g' := gb124) (o := .cells #[.bool false, .int .u32 0, .bool false, .int .i64 0, .slice none 0 0] 25 (0, 0)) (by (with_reducible repeat (first | refine blk_drewN ?_ _ | refine blk_drew ?_ | refine blk_alloc ?_ _)); exact BK124.out) NB124_0.out (by simp)); have n1_ := Aside0.mk (KeepBut.trans (by repeat (first | (with_reducible first | exact HK.out | apply KeepBut.set_ | apply keep_drewN | apply keep_drew | apply keep_alloc | refine keep_far ?_ GW124.out _) | exact HK.out)) hk (.inl rfl)); have n2_ := Aside0.mk (hb); have n3_ := Aside0.mk (hi); clear BK124; clear HK; clear HB; clear HI0; have BK124 := n0_; have HK := n1_; have HB := n2_; have HI0 := n3_; clear n0_ n1_ n2_ n3_; (try clear hb); (try clear hb2); (try clear hk); (try clear hi)) | ((with_reducible refine gate_callee (f := 137) rfl ?_); refine goesL_ (some 10) rfl rfl Try.func137 (by kernel_rfl) rfl #[.pointer (some ⟨g, 0, none⟩), .int .i64 4] rfl (by (try simp only [List.map_toArray, List.map_cons, List.map_nil]); first | done | rfl | (simp only [List.length_drop, List.length_take]; rfl)) ?_; (with_reducible refine (spec_l1src_n.calls g s0_0 t126 t127 4 t128 t129 t130 w0 _ ?side1 ?side2 A3.out).mono ?_); (case side1 => repeat (first | (with_reducible first | exact HI0.out | apply IsS172.alloc | apply IsS172.drewN | apply IsS172.drew | apply IsS172.set_1 | apply IsS172.set_2 | refine IsS172.far ?_ NB0_124.out _) | exact HI0.out)); (case side2 => repeat (first | (with_reducible first | exact HB.out | apply below_alloc | apply pw_below_drewN | apply below_drew1 | refine below_set ?_ (IsS172.ge HI0.out) | refine below_set ?_ GE124.out) | exact HB.out)); rintro e w9 ⟨rfl, hi, hb, hk⟩; refine ⟨_, rfl, ?_⟩; have n0_ := Aside0.mk (KeepBut.blk hk (g' := gb124) (o := .cells #[.bool false, .int .u32 0, .bool false, .int .i64 0, .slice none 0 0] 25 (0, 0)) (by (with_reducible repeat (first | refine blk_drewN ?_ _ | refine blk_drew ?_ | refine blk_alloc ?_ _)); exact BK124.out) NB124_0.out (by simp)); have n1_ := Aside0.mk (KeepBut.trans (by repeat (first | (with_reducible first | exact HK.out | apply KeepBut.set_ | apply keep_drewN | apply keep_drew | apply keep_alloc | refine keep_far ?_ GW124.out _) | exact HK.out)) hk (.inl rfl)); have n2_ := Aside0.mk (hb); have n3_ := Aside0.mk (hi); clear BK124; clear HK; clear HB; clear HI0; have BK124 := n0_; have HK := n1_; have HB := n2_; have HI0 := n3_; clear n0_ n1_ n2_ n3_; (try clear hb); (try clear hb2); (try clear hk); (try clear hi)) | ((with_reducible refine gate_callee (f := 137) rfl ?_); refine goesL_ (some 13) rfl rfl Try.func137 (by kernel_rfl) rfl #[.pointer (some ⟨g, 0, none⟩), .int .i64 9] rfl (by (try simp only [List.map_toArray, List.map_cons, List.map_nil]); first | done | rfl | (simp only [List.length_drop, List.length_take]; rfl)) ?_; (with_reducible refine (spec_l1src_n.calls g s0_0 t129 t130 9 t131 t132 t133 w0 _ ?side1 ?side2 A4.out).mono ?_); (case side1 => repeat (first | (with_reducible first | exact HI0.out | apply IsS172.alloc | apply IsS172.drewN | apply IsS172.drew | apply IsS172.set_1 | apply IsS172.set_2 | refine IsS172.far ?_ NB0_124.out _) | exact HI0.out)); (case side2 => repeat (first | (with_reducible first | exact HB.out | apply below_alloc | apply pw_below_drewN | apply below_drew1 | refine below_set ?_ (IsS172.ge HI0.out) | refine below_set ?_ GE124.out) | exact HB.out)); rintro e w10 ⟨rfl, hi, hb, hk⟩; refine ⟨_, rfl, ?_⟩; have n0_ := Aside0.mk (KeepBut.blk hk (g' := gb124) (o := .cells #[.bool false, .int .u32 0, .bool false, .int .i64 0, .slice none 0 0] 25 (0, 0)) (by (with_reducible repeat (first | refine blk_drewN ?_ _ | refine blk_drew ?_ | refine blk_alloc ?_ _)); exact BK124.out) NB124_0.out (by simp)); have n1_ := Aside0.mk (KeepBut.trans (by repeat (first | (with_reducible first | exact HK.out | apply KeepBut.set_ | apply keep_drewN | apply keep_drew | apply keep_alloc | refine keep_far ?_ GW124.out _) | exact HK.out)) hk (.inl rfl)); have n2_ := Aside0.mk (hb); have n3_ := Aside0.mk (hi); clear BK124; clear HK; clear HB; clear HI0; have BK124 := n0_; have HK := n1_; have HB := n2_; have HI0 := n3_; clear n0_ n1_ n2_ n3_; (try clear hb); (try clear hb2); (try clear hk); (try clear hi)) | ((with_reducible refine gate_dst (N := 14) rfl ?_); refine Kd.R_lit (Kd.int .u8) _ 5 ?hg (N := 14) ?hd (xs := ([] : List Int)) (inner := []) (ok := fun _ => True) (okp := fun _ => True) ?hr ?hp (fun _ hk => hk) trivial (Below.refl _ _) (Nat.le_refl _) (by simp) ?_; (case hd => rfl); (case hg => rfl); (case hr => first | (go_simp; done) | (go_simp; rfl)); (case hp => exact (Reps.none _ _)); intro v135 w11 ho12 hb hg_ hnew_; clear hg_ hnew_; (first | rw [← Ny134.out] at ho12 | (simp only [Int.reduceToNat] at ho12; rw [← Ny134.out] at ho12)); have n0_ := Aside0.mk (Kd.R_lower ho12 (keep_size (w := w) (g := g) (row := none) (by repeat (first | (with_reducible first | exact HK.out | apply KeepBut.set_ | apply keep_drewN | apply keep_drew | apply keep_alloc | refine keep_far ?_ GW124.out _) | exact HK.out)))); have n1_ := Aside0.mk (IsS172.below (by repeat (first | (with_reducible first | exact HI0.out | apply IsS172.alloc | apply IsS172.drewN | apply IsS172.drew | apply IsS172.set_1 | apply IsS172.set_2 | refine IsS172.far ?_ NB0_124.out _) | exact HI0.out)) hb); have n2_ := Aside0.mk (blk_below (g := gb124) (o := .cells #[.bool false, .int .u32 0, .bool false, .int .i64 0, .slice none 0 0] 25 (0, 0)) (by (with_reducible repeat (first | refine blk_drewN ?_ _ | refine blk_drew ?_ | refine blk_alloc ?_ _)); exact BK124.out) hb); have n3_ := Aside0.mk (KeepBut.trans (by repeat (first | (with_reducible first | exact HK.out | apply KeepBut.set_ | apply keep_drewN | apply keep_drew | apply keep_alloc | refine keep_far ?_ GW124.out _) | exact HK.out)) (KeepBut.of_below hb g none) (.inl rfl)); have n4_ := Aside0.mk (below_step (by repeat (first | (with_reducible first | exact HB.out | apply below_alloc | apply pw_below_drewN | apply below_drew1 | refine below_set ?_ (IsS172.ge HI0.out) | refine below_set ?_ GE124.out) | exact HB.out)) hb); clear HI0; clear BK124; clear HK; clear HB; have HO136 := n0_; have HI0 := n1_; have BK124 := n2_; have HK := n3_; have HB := n4_; clear n0_ n1_ n2_ n3_ n4_; clear hb ho12; obtain ⟨Ao13, co13, eo13⟩ := Kd.R_slice HO136.out; subst eo13) | ((with_reducible refine gate_dst (N := 3) rfl ?_); refine box_event ?hg (N := 3) ?hd (cs := #[.bool false, .int .u32 0, .bool false, .int .i64 0, .slice none 0 0]) (t := 25) ?hr ?_; (case hd => rfl); (case hg => rfl); (case hr => first | (go_simp; done) | (go_simp; rfl)); intro gb137 hg w14 hbox hb; have n0_ := Aside0.mk (Kd.R_below (by (with_reducible repeat (first | apply Kd.R_alloc | apply Kd.R_drewN | apply Kd.R_drew)); exact HO136.out) hb); have n1_ := Aside0.mk (IsS172.below (by repeat (first | (with_reducible first | exact HI0.out | apply IsS172.alloc | apply IsS172.drewN | apply IsS172.drew | apply IsS172.set_1 | apply IsS172.set_2 | refine IsS172.far ?_ NB0_124.out _) | exact HI0.out)) hb); have n2_ := Aside0.mk (blk_below (g := gb124) (o := .cells #[.bool false, .int .u32 0, .bool false, .int .i64 0, .slice none 0 0] 25 (0, 0)) (by (with_reducible repeat (first | refine blk_drewN ?_ _ | refine blk_drew ?_ | refine blk_alloc ?_ _)); exact BK124.out) hb); have n3_ := Aside0.mk (KeepBut.trans (by repeat (first | (with_reducible first | exact HK.out | apply KeepBut.set_ | apply keep_drewN | apply keep_drew | apply keep_alloc | refine keep_far ?_ GW124.out _) | exact HK.out)) (KeepBut.of_below hb g none) (.inl rfl)); have n4_ := Aside0.mk (below_step (by repeat (first | (with_reducible first | exact HB.out | apply below_alloc | apply pw_below_drewN | apply below_drew1 | refine below_set ?_ (IsS172.ge HI0.out) | refine below_set ?_ GE124.out) | exact HB.out)) hb); have n5_ := Aside0.mk (hbox); have n6_ := Aside0.mk ((by rw [hg]; exact (keep_size (w := w) (g := g) (row := none) (by repeat (first | (with_reducible first | exact HK.out | apply KeepBut.set_ | apply keep_drewN | apply keep_drew | apply keep_alloc | refine keep_far ?_ GW124.out _) | exact HK.out))) : w.heap.size ≤ gb137)); have n7_ := Aside0.mk ((Nat.le_trans HW0.out (by rw [hg]; exact (keep_size (w := w) (g := g) (row := none) (by repeat (first | (with_reducible first | exact HK.out | apply KeepBut.set_ | apply keep_drewN | apply keep_drew | apply keep_alloc | refine keep_far ?_ GW124.out _) | exact HK.out))) : w.heap.size ≤ gb137) : w0.heap.size ≤ gb137)); have n8_ := Aside0.mk ((by rw [hg]; exact Nat.ne_of_lt (blk_lt (g := gb124) (o := .cells #[.bool false, .int .u32 0, .bool false, .int .i64 0, .slice none 0 0] 25 (0, 0)) (by (with_reducible repeat (first | refine blk_drewN ?_ _ | refine blk_drew ?_ | refine blk_alloc ?_ _)); exact BK124.out)) : gb124 ≠ gb137)); have n9_ := Aside0.mk ((by rw [hg]; exact Nat.ne_of_gt (blk_lt (g := gb124) (o := .cells #[.bool false, .int .u32 0, .bool false, .int .i64 0, .slice none 0 0] 25 (0, 0)) (by (with_reducible repeat (first | refine blk_drewN ?_ _ | refine blk_drew ?_ | refine blk_alloc ?_ _)); exact BK124.out)) : gb137 ≠ gb124)); have n10_ := Aside0.mk ((by rw [hg]; exact Nat.ne_of_lt (IsS172.lt (show IsS172 w0 _ g s0_0 t132 t133 from by repeat (first | (with_reducible first | exact HI0.out | apply IsS172.alloc | apply IsS172.drewN | apply IsS172.drew | apply IsS172.set_1 | apply IsS172.set_2 | refine IsS172.far ?_ NB0_124.out _) | exact HI0.out))) : g ≠ gb137)); have n11_ := Aside0.mk ((by rw [hg]; exact Nat.ne_of_gt (IsS172.lt (show IsS172 w0 _ g s0_0 t132 t133 from by repeat (first | (with_reducible first | exact HI0.out | apply IsS172.alloc | apply IsS172.drewN | apply IsS172.drew | apply IsS172.set_1 | apply IsS172.set_2 | refine IsS172.far ?_ NB0_124.out _) | exact HI0.out))) : gb137 ≠ g)); clear HO136; clear HI0; clear BK124; clear HK; clear HB; have HO136 := n0_; have HI0 := n1_; have BK124 := n2_; have HK := n3_; have HB := n4_; have BK137 := n5_; have GW137 := n6_; have GE137 := n7_; have NB124_137 := n8_; have NB137_124 := n9_; have NB0_137 := n10_; have NB137_0 := n11_; clear n0_ n1_ n2_ n3_ n4_ n5_ n6_ n7_ n8_ n9_ n10_ n11_; clear hb hbox hg; have hnb15 := NB137_124.out; have hnc15 := NB124_137.out; have hnb16 := NB137_0.out; have hnc16 := NB0_137.out; have hcz17_0 : w14.cell? ⟨gb137, 0, none⟩ = some (.bool false) := (blk_cell BK137.out 0).trans rfl; have hcz17_1 : w14.cell? ⟨gb137, 1, none⟩ = some (.int .u32 0) := (blk_cell BK137.out 1).trans rfl; have hcz17_2 : w14.cell? ⟨gb137, 2, none⟩ = some (.bool false) := (blk_cell BK137.out 2).trans rfl; have hcz17_3 : w14.cell? ⟨gb137, 3, none⟩ = some (.int .i64 0) := (blk_cell BK137.out 3).trans rfl; have hcz17_4 : w14.cell? ⟨gb137, 4, none⟩ = some (.slice none 0 0) := (blk_cell BK137.out 4).trans rfl; have hfz17_0 := blk_frozen BK137.out 0; have hfz17_1 := blk_frozen BK137.out 1; have hfz17_2 := blk_frozen BK137.out 2; have hfz17_3 := blk_frozen BK137.out 3; have hfz17_4 := blk_frozen BK137.out 4) | ((with_reducible refine gate_callee (f := 137) rfl ?_); refine goesL_ (some 17) rfl rfl Try.func137 (by kernel_rfl) rfl #[.pointer (some ⟨g, 0, none⟩), .int .i64 6] rfl (by (try simp only [List.map_toArray, List.map_cons, List.map_nil]); first | done | rfl | (simp only [List.length_drop, List.length_take]; rfl)) ?_; (with_reducible refine (spec_l1src_n.calls g s0_0 t132 t133 6 t138 t139 t140 w0 _ ?side1 ?side2 A5.out).mono ?_); (case side1 => repeat (first | (with_reducible first | exact HI0.out | apply IsS172.alloc | apply IsS172.drewN | apply IsS172.drew | apply IsS172.set_1 | apply IsS172.set_2 | refine IsS172.far ?_ NB0_124.out _ | refine IsS172.far ?_ NB0_137.out _) | exact HI0.out)); (case side2 => repeat (first | (with_reducible first | exact HB.out | apply below_alloc | apply pw_below_drewN | apply below_drew1 | refine below_set ?_ (IsS172.ge HI0.out) | refine below_set ?_ GE124.out | refine below_set ?_ GE137.out) | exact HB.out)); rintro e w18 ⟨rfl, hi, hb, hk⟩; refine ⟨_, rfl, ?_⟩; have n0_ := Aside0.mk (KeepBut.blk hk (g' := gb124) (o := .cells #[.bool false, .int .u32 0, .bool false, .int .i64 0, .slice none 0 0] 25 (0, 0)) (by (with_reducible repeat (first | refine blk_drewN ?_ _ | refine blk_drew ?_ | refine blk_alloc ?_ _)); refine blk_far ?_ NB124_137.out _; (with_reducible repeat (first | refine blk_drewN ?_ _ | refine blk_drew ?_ | refine blk_alloc ?_ _)); refine blk_far ?_ NB124_137.out _; (with_reducible repeat (first | refine blk_drewN ?_ _ | refine blk_drew ?_ | refine blk_alloc ?_ _)); refine blk_far ?_ NB124_137.out _; (with_reducible repeat (first | refine blk_drewN ?_ _ | refine blk_drew ?_ | refine blk_alloc ?_ _)); refine blk_far ?_ NB124_137.out _; (with_reducible repeat (first | refine blk_drewN ?_ _ | refine blk_drew ?_ | refine blk_alloc ?_ _)); refine blk_far ?_ NB124_137.out _; (with_reducible repeat (first | refine blk_drewN ?_ _ | refine blk_drew ?_ | refine blk_alloc ?_ _)); exact BK124.out) NB124_0.out (by simp)); have n1_ := Aside0.mk (Kd.R_mono (Kd.R_keep (IsS172.apart (show IsS172 w0 _ g s0_0 t132 t133 from by repeat (first | (with_reducible first | exact HI0.out | apply IsS172.alloc | apply IsS172.drewN | apply IsS172.drew | apply IsS172.set_1 | apply IsS172.set_2 | refine IsS172.far ?_ NB0_124.out _ | refine IsS172.far ?_ NB0_137.out _) | exact HI0.out)) (by (with_reducible repeat (first | apply Kd.R_alloc | apply Kd.R_drewN | apply Kd.R_drew)); exact (Kd.R_mono (Kd.R_far (p := ⟨gb137, 4, none⟩) (Kd.R_far (p := ⟨gb137, 3, none⟩) (Kd.R_far (p := ⟨gb137, 2, none⟩) (Kd.R_far (p := ⟨gb137, 1, none⟩) (Kd.R_far (p := ⟨gb137, 0, none⟩) (Kd.R_types HO136.out BK137.out (by decide)) (fun _ hk => hk.2) (.bool (t125 == 1))) (fun _ hk => hk.2) (.int .u32 0)) (fun _ hk => hk.2) (.bool (t128 == 0))) (fun _ hk => hk.2) (.int .i64 t131)) (fun _ hk => hk.2) (.slice Ao13 y134.length co13)) (fun _ h_ => h_.1))) (by decide)) hk (fun _ h => h.2)) (fun _ h => h.1)); have n2_ := Aside0.mk (KeepBut.blk hk (g' := gb137) (o := .cells #[.bool (t125 == 1), .int .u32 0, .bool (t128 == 0), .int .i64 t131, .slice Ao13 y134.length co13] 25 (0, 0)) (by (with_reducible repeat (first | refine blk_drewN ?_ _ | refine blk_drew ?_ | refine blk_alloc ?_ _)); refine blk_put (cs := #[.bool (t125 == 1), .int .u32 0, .bool (t128 == 0), .int .i64 t131, .slice none 0 0]) ?_ 4 _ rfl; (with_reducible repeat (first | refine blk_drewN ?_ _ | refine blk_drew ?_ | refine blk_alloc ?_ _)); refine blk_put (cs := #[.bool (t125 == 1), .int .u32 0, .bool (t128 == 0), .int .i64 0, .slice none 0 0]) ?_ 3 _ rfl; (with_reducible repeat (first | refine blk_drewN ?_ _ | refine blk_drew ?_ | refine blk_alloc ?_ _)); refine blk_put (cs := #[.bool (t125 == 1), .int .u32 0, .bool false, .int .i64 0, .slice none 0 0]) ?_ 2 _ rfl; (with_reducible repeat (first | refine blk_drewN ?_ _ | refine blk_drew ?_ | refine blk_alloc ?_ _)); refine blk_put (cs := #[.bool (t125 == 1), .int .u32 0, .bool false, .int .i64 0, .slice none 0 0]) ?_ 1 _ rfl; (with_reducible repeat (first | refine blk_drewN ?_ _ | refine blk_drew ?_ | refine blk_alloc ?_ _)); refine blk_put (cs := #[.bool false, .int .u32 0, .bool false, .int .i64 0, .slice none 0 0]) ?_ 0 _ rfl; (with_reducible repeat (first | refine blk_drewN ?_ _ | refine blk_drew ?_ | refine blk_alloc ?_ _)); exact BK137.out) NB137_0.out (by simp)); have n3_ := Aside0.mk (KeepBut.trans (by repeat (first | (with_reducible first | exact HK.out | apply KeepBut.set_ | apply keep_drewN | apply keep_drew | apply keep_alloc | refine keep_far ?_ GW124.out _ | refine keep_far ?_ GW137.out _) | exact HK.out)) hk (.inl rfl)); have n4_ := Aside0.mk (hb); have n5_ := Aside0.mk (hi); clear BK124; clear HO136; clear BK137; clear HK; clear HB; clear HI0; have BK124 := n0_; have HO136 := n1_; have BK137 := n2_; have HK := n3_; have HB := n4_; have HI0 := n5_; clear n0_ n1_ n2_ n3_ n4_ n5_; (try clear hb); (try clear hb2); (try clear hk); (try clear hi)))
  (try simp only [Act.put, List.setIfInBounds_toArray, List.set_cons_zero, List.set_cons_succ])
  go_cut [] (fun wc => ∃ (kq : Nat) (x1001_5 : Int) (x1002_5 : Int) (x138003_5 : Int), Aside0 (spec_l1genFrame.j0 kq s0_0 x1001_5 x1002_5 (t125 == 1) 0 (t128 == 0) x138003_5 y134 = some (r1, r2, r3, r4, r5, r6, r7)) ∧ Aside0 (kq ≤ k) ∧ Aside0 (Kd.R (Kd.int .u8) 5 wc w.heap.size (fun _ => True) (.slice Ao13 y134.length co13) y134) ∧ Aside0 (wc.heap[gb124]? = some (.cells #[.bool false, .int .u32 0, .bool false, .int .i64 0, (.slice none 0 0)] 25 (0, 0))) ∧ Aside0 (wc.heap[gb137]? = some (.cells #[.bool (t125 == 1), .int .u32 0, .bool (t128 == 0), .int .i64 x138003_5, (.slice Ao13 y134.length co13)] 25 (0, 0))) ∧ Aside0 (IsS172 w0 wc g s0_0 x1001_5 x1002_5) ∧ Aside0 (KeepBut w wc g none) ∧ Aside0 (Below w0.heap.size w0 wc))
  case first =>
    have H := HC6.out
    clear HC6
    by_cases c19 : t138 = 0
    · rw [if_pos c19] at H
      have c19b0 : (t138 == 0) = true := beq_iff_eq.mpr c19
      have c19b1 : (t138 != 0) = false := bne_eq_false_iff_eq.mpr c19
      clear c19
      (first | rw [c19b0] | (simp only [i64_w, i32_w]; rw [c19b0]) | skip)
      replace H := Option.bind_eq_some_iff.mp H
      obtain ⟨⟨t141, t142, t143⟩, A200, H⟩ := H
      replace H : (spec_l1genFrame.j0 k s0_0 t142 t143 (t125 == 1) 0 (t128 == 0) t141 y134) = some (r1, r2, r3, r4, r5, r6, r7) := H
      have A20 := Aside0.mk A200
      clear A200
      have H' := Aside0.mk H
      clear H
      go_wp2_with (first | ((with_reducible refine gate_callee (f := 137) rfl ?_); refine goesL_ (some 20) rfl rfl Try.func137 (by kernel_rfl) rfl #[.pointer (some ⟨g, 0, none⟩), .int .i64 16] rfl (by (try simp only [List.map_toArray, List.map_cons, List.map_nil]); first | done | rfl | (simp only [List.length_drop, List.length_take]; rfl)) ?_; (with_reducible refine (spec_l1src_n.calls g s0_0 t139 t140 16 t141 t142 t143 w0 _ ?side1 ?side2 A20.out).mono ?_); (case side1 => repeat (first | (with_reducible first | exact HI0.out | apply IsS172.alloc | apply IsS172.drewN | apply IsS172.drew | apply IsS172.set_1 | apply IsS172.set_2 | refine IsS172.far ?_ NB0_124.out _ | refine IsS172.far ?_ NB0_137.out _) | exact HI0.out)); (case side2 => repeat (first | (with_reducible first | exact HB.out | apply below_alloc | apply pw_below_drewN | apply below_drew1 | refine below_set ?_ (IsS172.ge HI0.out) | refine below_set ?_ GE124.out | refine below_set ?_ GE137.out) | exact HB.out)); rintro e w21 ⟨rfl, hi, hb, hk⟩; refine ⟨_, rfl, ?_⟩; have n0_ := Aside0.mk (KeepBut.blk hk (g' := gb124) (o := .cells #[.bool false, .int .u32 0, .bool false, .int .i64 0, .slice none 0 0] 25 (0, 0)) (by (with_reducible repeat (first | refine blk_drewN ?_ _ | refine blk_drew ?_ | refine blk_alloc ?_ _)); exact BK124.out) NB124_0.out (by simp)); have n1_ := Aside0.mk (Kd.R_mono (Kd.R_keep (IsS172.apart (show IsS172 w0 _ g s0_0 t139 t140 from by repeat (first | (with_reducible first | exact HI0.out | apply IsS172.alloc | apply IsS172.drewN | apply IsS172.drew | apply IsS172.set_1 | apply IsS172.set_2 | refine IsS172.far ?_ NB0_124.out _ | refine IsS172.far ?_ NB0_137.out _) | exact HI0.out)) (by (with_reducible repeat (first | apply Kd.R_alloc | apply Kd.R_drewN | apply Kd.R_drew)); exact HO136.out) (by decide)) hk (fun _ h => h.2)) (fun _ h => h.1)); have n2_ := Aside0.mk (KeepBut.blk hk (g' := gb137) (o := .cells #[.bool (t125 == 1), .int .u32 0, .bool (t128 == 0), .int .i64 t131, .slice Ao13 y134.length co13] 25 (0, 0)) (by (with_reducible repeat (first | refine blk_drewN ?_ _ | refine blk_drew ?_ | refine blk_alloc ?_ _)); exact BK137.out) NB137_0.out (by simp)); have n3_ := Aside0.mk (KeepBut.trans (by repeat (first | (with_reducible first | exact HK.out | apply KeepBut.set_ | apply keep_drewN | apply keep_drew | apply keep_alloc | refine keep_far ?_ GW124.out _ | refine keep_far ?_ GW137.out _) | exact HK.out)) hk (.inl rfl)); have n4_ := Aside0.mk (hb); have n5_ := Aside0.mk (hi); clear BK124; clear HO136; clear BK137; clear HK; clear HB; clear HI0; have BK124 := n0_; have HO136 := n1_; have BK137 := n2_; have HK := n3_; have HB := n4_; have HI0 := n5_; clear n0_ n1_ n2_ n3_ n4_ n5_; (try clear hb); (try clear hb2); (try clear hk); (try clear hi); have hnb22 := NB137_124.out; have hnc22 := NB124_137.out; have hnb23 := NB137_0.out; have hnc23 := NB0_137.out; have hcz24_0 : w21.cell? ⟨gb137, 0, none⟩ = some (.bool (t125 == 1)) := (blk_cell BK137.out 0).trans rfl; have hcz24_1 : w21.cell? ⟨gb137, 1, none⟩ = some (.int .u32 0) := (blk_cell BK137.out 1).trans rfl; have hcz24_2 : w21.cell? ⟨gb137, 2, none⟩ = some (.bool (t128 == 0)) := (blk_cell BK137.out 2).trans rfl; have hcz24_3 : w21.cell? ⟨gb137, 3, none⟩ = some (.int .i64 t131) := (blk_cell BK137.out 3).trans rfl; have hcz24_4 : w21.cell? ⟨gb137, 4, none⟩ = some (.slice Ao13 y134.length co13) := (blk_cell BK137.out 4).trans rfl; have hfz24_0 := blk_frozen BK137.out 0; have hfz24_1 := blk_frozen BK137.out 1; have hfz24_2 := blk_frozen BK137.out 2; have hfz24_3 := blk_frozen BK137.out 3; have hfz24_4 := blk_frozen BK137.out 4))
      go_meet
      case rel => exact ⟨_, (t142), (t143), (t141), H', ⟨by first | omega | exact Nat.le_refl _⟩, ⟨by (with_reducible repeat (first | apply Kd.R_alloc | apply Kd.R_drewN | apply Kd.R_drew)); exact Kd.R_mono (Kd.R_far (p := ⟨gb137, 3, none⟩) (Kd.R_types HO136.out BK137.out (by decide)) (fun _ hk => hk.2) (.int .i64 t141)) (fun _ hk => trivial)⟩, ⟨by (with_reducible repeat (first | refine blk_drewN ?_ _ | refine blk_drew ?_ | refine blk_alloc ?_ _)); refine blk_far ?_ NB124_137.out _; (with_reducible repeat (first | refine blk_drewN ?_ _ | refine blk_drew ?_ | refine blk_alloc ?_ _)); exact BK124.out⟩, ⟨by (with_reducible repeat (first | refine blk_drewN ?_ _ | refine blk_drew ?_ | refine blk_alloc ?_ _)); refine blk_put (cs := #[.bool (t125 == 1), .int .u32 0, .bool (t128 == 0), .int .i64 t131, .slice Ao13 y134.length co13]) ?_ 3 _ rfl; (with_reducible repeat (first | refine blk_drewN ?_ _ | refine blk_drew ?_ | refine blk_alloc ?_ _)); exact BK137.out⟩, ⟨by repeat (first | (with_reducible first | exact HI0.out | apply IsS172.alloc | apply IsS172.drewN | apply IsS172.drew | apply IsS172.set_1 | apply IsS172.set_2 | refine IsS172.far ?_ NB0_124.out _ | refine IsS172.far ?_ NB0_137.out _) | exact HI0.out)⟩, ⟨by repeat (first | (with_reducible first | exact HK.out | apply KeepBut.set_ | apply keep_drewN | apply keep_drew | apply keep_alloc | refine keep_far ?_ GW124.out _ | refine keep_far ?_ GW137.out _) | exact HK.out)⟩, ⟨by repeat (first | (with_reducible first | exact HB.out | apply below_alloc | apply pw_below_drewN | apply below_drew1 | refine below_set ?_ (IsS172.ge HI0.out) | refine below_set ?_ GE124.out | refine below_set ?_ GE137.out) | exact HB.out)⟩⟩
    · rw [if_neg c19] at H
      have c19b0 : (t138 == 0) = false := beq_eq_false_iff_ne.mpr c19
      have c19b1 : (t138 != 0) = true := bne_iff_ne.mpr c19
      (first | rw [c19b0] | (simp only [i64_w, i32_w]; rw [c19b0]) | skip)
      have H' := Aside0.mk H
      clear H
      go_wp2
      go_meet
      case rel => exact ⟨_, (t139), (t140), (t131), H', ⟨by first | omega | exact Nat.le_refl _⟩, ⟨by (with_reducible repeat (first | apply Kd.R_alloc | apply Kd.R_drewN | apply Kd.R_drew)); exact HO136.out⟩, ⟨by (with_reducible repeat (first | refine blk_drewN ?_ _ | refine blk_drew ?_ | refine blk_alloc ?_ _)); exact BK124.out⟩, ⟨by (with_reducible repeat (first | refine blk_drewN ?_ _ | refine blk_drew ?_ | refine blk_alloc ?_ _)); exact BK137.out⟩, ⟨by repeat (first | (with_reducible first | exact HI0.out | apply IsS172.alloc | apply IsS172.drewN | apply IsS172.drew | apply IsS172.set_1 | apply IsS172.set_2 | refine IsS172.far ?_ NB0_124.out _ | refine IsS172.far ?_ NB0_137.out _) | exact HI0.out)⟩, ⟨by repeat (first | (with_reducible first | exact HK.out | apply KeepBut.set_ | apply keep_drewN | apply keep_drew | apply keep_alloc | refine keep_far ?_ GW124.out _ | refine keep_far ?_ GW137.out _) | exact HK.out)⟩, ⟨by repeat (first | (with_reducible first | exact HB.out | apply below_alloc | apply pw_below_drewN | apply below_drew1 | refine below_set ?_ (IsS172.ge HI0.out) | refine below_set ?_ GE124.out | refine below_set ?_ GE137.out) | exact HB.out)⟩⟩
  case rest =>
    clear HC6
    try clear c1
    try clear c2
    try clear p2
    try clear c13
    try clear c15
    try clear c16
    try clear c19
    try clear c19b0
    try clear c19b1
    try clear c22
    try clear c23
    try clear hcz17_0
    try clear hcz17_1
    try clear hcz17_2
    try clear hcz17_3
    try clear hcz17_4
    try clear hcz24_0
    try clear hcz24_1
    try clear hcz24_2
    try clear hcz24_3
    try clear hcz24_4
    try clear hfz17_0
    try clear hfz17_1
    try clear hfz17_2
    try clear hfz17_3
    try clear hfz17_4
    try clear hfz24_0
    try clear hfz24_1
    try clear hfz24_2
    try clear hfz24_3
    try clear hfz24_4
    obtain ⟨kq, x1001_5, x1002_5, x138003_5, HA, HJ5, HO_138004, BK124, BK137, HI0, HK, HB⟩ := hcut
    cases kq with
    | zero => exact absurd HA.out (by simp [spec_l1genFrame.j0])
    | succ kj5 =>
      have H := HA.out
      clear HA
      simp only [spec_l1genFrame.j0] at H
      replace H := Option.bind_eq_some_iff.mp H
      obtain ⟨⟨t144, t145, t146⟩, A250, H⟩ := H
      replace H : ((spec_l1dataLen.f (t125 == 1) t144 (t128 == 0) x138003_5 y134).bind fun t147 => (spec_l1genFrame.l0 kj5 t147 0 s0_0 t145 t146 (t125 == 1) t144 (t128 == 0) x138003_5 y134)) = some (r1, r2, r3, r4, r5, r6, r7) := H
      have A25 := Aside0.mk A250
      clear A250
      replace H := Option.bind_eq_some_iff.mp H
      obtain ⟨t147, A260, H⟩ := H
      replace H : (spec_l1genFrame.l0 kj5 t147 0 s0_0 t145 t146 (t125 == 1) t144 (t128 == 0) x138003_5 y134) = some (r1, r2, r3, r4, r5, r6, r7) := H
      have A26 := Aside0.mk A260
      clear A260
      have H' := Aside0.mk H
      clear H
      have hnb27 := NB137_124.out
      have hnc27 := NB124_137.out
      have hnb28 := NB137_0.out
      have hnc28 := NB0_137.out
      have hcz29_0 : wc.cell? ⟨gb137, 0, none⟩ = some (.bool (t125 == 1)) := (blk_cell BK137.out 0).trans rfl
      have hcz29_1 : wc.cell? ⟨gb137, 1, none⟩ = some (.int .u32 0) := (blk_cell BK137.out 1).trans rfl
      have hcz29_2 : wc.cell? ⟨gb137, 2, none⟩ = some (.bool (t128 == 0)) := (blk_cell BK137.out 2).trans rfl
      have hcz29_3 : wc.cell? ⟨gb137, 3, none⟩ = some (.int .i64 x138003_5) := (blk_cell BK137.out 3).trans rfl
      have hcz29_4 : wc.cell? ⟨gb137, 4, none⟩ = some (.slice Ao13 y134.length co13) := (blk_cell BK137.out 4).trans rfl
      have hfz29_0 := blk_frozen BK137.out 0
      have hfz29_1 := blk_frozen BK137.out 1
      have hfz29_2 := blk_frozen BK137.out 2
      have hfz29_3 := blk_frozen BK137.out 3
      have hfz29_4 := blk_frozen BK137.out 4
      go_wp2_with (first | ((with_reducible refine gate_callee (f := 157) rfl ?_); refine goesL_ (some 25) rfl rfl Try.func157 (by kernel_rfl) rfl #[.pointer (some ⟨g, 0, none⟩), .bool (t125 == 1)] rfl (by (try simp only [List.map_toArray, List.map_cons, List.map_nil]); first | done | rfl | (simp only [List.length_drop, List.length_take]; rfl)) ?_; (with_reducible refine (spec_l1genId.calls kj5 g s0_0 x1001_5 x1002_5 (t125 == 1) t144 t145 t146 w0 _ ?side1 ?side2 A25.out).mono ?_); (case side1 => repeat (first | (with_reducible first | exact HI0.out | apply IsS172.alloc | apply IsS172.drewN | apply IsS172.drew | apply IsS172.set_1 | apply IsS172.set_2 | refine IsS172.far ?_ NB0_124.out _ | refine IsS172.far ?_ NB0_137.out _) | exact HI0.out)); (case side2 => repeat (first | (with_reducible first | exact HB.out | apply below_alloc | apply pw_below_drewN | apply below_drew1 | refine below_set ?_ (IsS172.ge HI0.out) | refine below_set ?_ GE124.out | refine below_set ?_ GE137.out) | exact HB.out)); rintro e w30 ⟨rfl, hi, hb, hk⟩; refine ⟨_, rfl, ?_⟩; have n0_ := Aside0.mk (Kd.R_mono (Kd.R_keep (IsS172.apart (show IsS172 w0 _ g s0_0 x1001_5 x1002_5 from by repeat (first | (with_reducible first | exact HI0.out | apply IsS172.alloc | apply IsS172.drewN | apply IsS172.drew | apply IsS172.set_1 | apply IsS172.set_2 | refine IsS172.far ?_ NB0_124.out _ | refine IsS172.far ?_ NB0_137.out _) | exact HI0.out)) (by (with_reducible repeat (first | apply Kd.R_alloc | apply Kd.R_drewN | apply Kd.R_drew)); exact HO_138004.out) (by decide)) hk (fun _ h => h.2)) (fun _ h => h.1)); have n1_ := Aside0.mk (KeepBut.blk hk (g' := gb124) (o := .cells #[.bool false, .int .u32 0, .bool false, .int .i64 0, .slice none 0 0] 25 (0, 0)) (by (with_reducible repeat (first | refine blk_drewN ?_ _ | refine blk_drew ?_ | refine blk_alloc ?_ _)); exact BK124.out) NB124_0.out (by simp)); have n2_ := Aside0.mk (KeepBut.blk hk (g' := gb137) (o := .cells #[.bool (t125 == 1), .int .u32 0, .bool (t128 == 0), .int .i64 x138003_5, .slice Ao13 y134.length co13] 25 (0, 0)) (by (with_reducible repeat (first | refine blk_drewN ?_ _ | refine blk_drew ?_ | refine blk_alloc ?_ _)); exact BK137.out) NB137_0.out (by simp)); have n3_ := Aside0.mk (KeepBut.trans (by repeat (first | (with_reducible first | exact HK.out | apply KeepBut.set_ | apply keep_drewN | apply keep_drew | apply keep_alloc | refine keep_far ?_ GW124.out _ | refine keep_far ?_ GW137.out _) | exact HK.out)) hk (.inl rfl)); have n4_ := Aside0.mk (hb); have n5_ := Aside0.mk (hi); clear HO_138004; clear BK124; clear BK137; clear HK; clear HB; clear HI0; have HO_138004 := n0_; have BK124 := n1_; have BK137 := n2_; have HK := n3_; have HB := n4_; have HI0 := n5_; clear n0_ n1_ n2_ n3_ n4_ n5_; (try clear hb); (try clear hb2); (try clear hk); (try clear hi); have hcz31_0 : w30.cell? ⟨gb137, 0, none⟩ = some (.bool (t125 == 1)) := (blk_cell BK137.out 0).trans rfl; have hcz31_1 : w30.cell? ⟨gb137, 1, none⟩ = some (.int .u32 0) := (blk_cell BK137.out 1).trans rfl; have hcz31_2 : w30.cell? ⟨gb137, 2, none⟩ = some (.bool (t128 == 0)) := (blk_cell BK137.out 2).trans rfl; have hcz31_3 : w30.cell? ⟨gb137, 3, none⟩ = some (.int .i64 x138003_5) := (blk_cell BK137.out 3).trans rfl; have hcz31_4 : w30.cell? ⟨gb137, 4, none⟩ = some (.slice Ao13 y134.length co13) := (blk_cell BK137.out 4).trans rfl; have hfz31_0 := blk_frozen BK137.out 0; have hfz31_1 := blk_frozen BK137.out 1; have hfz31_2 := blk_frozen BK137.out 2; have hfz31_3 := blk_frozen BK137.out 3; have hfz31_4 := blk_frozen BK137.out 4) | ((with_reducible refine gate_callee (f := 73) rfl ?_); refine goesL_ (some 28) rfl rfl Try.func73 (by kernel_rfl) rfl #[.agg #[.bool (t125 == 1), .int .u32 t144, .bool (t128 == 0), .int .i64 x138003_5, .slice Ao13 y134.length co13]] rfl (by (try simp only [List.map_toArray, List.map_cons, List.map_nil]); first | done | rfl | (simp only [List.length_drop, List.length_take]; rfl)) ?_; (with_reducible refine (spec_l1dataLen.calls (t125 == 1) t144 (t128 == 0) x138003_5 _ _ y134 t147 _ ?side1 ?side2 A26.out).mono ?_); (case side1 => refine (Kd.R_reads' (e := 5) (base := w.heap.size) (ok := fun k_ => True) (n := y134.length) (c := co13) ?_).2.2; exact (by (with_reducible repeat (first | apply Kd.R_alloc | apply Kd.R_drewN | apply Kd.R_drew)); exact (Kd.R_mono (Kd.R_far (p := ⟨gb137, 1, none⟩) (Kd.R_types HO_138004.out BK137.out (by decide)) (fun _ hk => hk.2) (.int .u32 t144)) (fun _ h_ => h_.1)))); (case side2 => exact (Kd.R_reads' HO_138004.out).2.1); rintro e w32 ⟨rfl, hb⟩; refine ⟨_, rfl, ?_⟩; have n0_ := Aside0.mk (Kd.R_below (by (with_reducible repeat (first | apply Kd.R_alloc | apply Kd.R_drewN | apply Kd.R_drew)); exact (Kd.R_mono (Kd.R_far (p := ⟨gb137, 1, none⟩) (Kd.R_types HO_138004.out BK137.out (by decide)) (fun _ hk => hk.2) (.int .u32 t144)) (fun _ h_ => h_.1))) hb); have n1_ := Aside0.mk (blk_below (g := gb124) (o := .cells #[.bool false, .int .u32 0, .bool false, .int .i64 0, .slice none 0 0] 25 (0, 0)) (by (with_reducible repeat (first | refine blk_drewN ?_ _ | refine blk_drew ?_ | refine blk_alloc ?_ _)); refine blk_far ?_ NB124_137.out _; (with_reducible repeat (first | refine blk_drewN ?_ _ | refine blk_drew ?_ | refine blk_alloc ?_ _)); exact BK124.out) hb); have n2_ := Aside0.mk (blk_below (g := gb137) (o := .cells #[.bool (t125 == 1), .int .u32 t144, .bool (t128 == 0), .int .i64 x138003_5, .slice Ao13 y134.length co13] 25 (0, 0)) (by (with_reducible repeat (first | refine blk_drewN ?_ _ | refine blk_drew ?_ | refine blk_alloc ?_ _)); refine blk_put (cs := #[.bool (t125 == 1), .int .u32 0, .bool (t128 == 0), .int .i64 x138003_5, .slice Ao13 y134.length co13]) ?_ 1 _ rfl; (with_reducible repeat (first | refine blk_drewN ?_ _ | refine blk_drew ?_ | refine blk_alloc ?_ _)); exact BK137.out) hb); have n3_ := Aside0.mk (IsS172.below (show IsS172 w0 (w30.setCell ⟨gb137, 1, none⟩ (.int .u32 t144)) g s0_0 t145 t146 from by repeat (first | (with_reducible first | exact HI0.out | apply IsS172.alloc | apply IsS172.drewN | apply IsS172.drew | apply IsS172.set_1 | apply IsS172.set_2 | refine IsS172.far ?_ NB0_124.out _ | refine IsS172.far ?_ NB0_137.out _) | exact HI0.out)) hb); have n4_ := Aside0.mk (KeepBut.trans (by repeat (first | (with_reducible first | exact HK.out | apply KeepBut.set_ | apply keep_drewN | apply keep_drew | apply keep_alloc | refine keep_far ?_ GW124.out _ | refine keep_far ?_ GW137.out _) | exact HK.out)) (KeepBut.of_below hb g none) (.inl rfl)); have n5_ := Aside0.mk (below_step (by repeat (first | (with_reducible first | exact HB.out | apply below_alloc | apply pw_below_drewN | apply below_drew1 | refine below_set ?_ (IsS172.ge HI0.out) | refine below_set ?_ GE124.out | refine below_set ?_ GE137.out) | exact HB.out)) hb); clear HO_138004; clear BK124; clear BK137; clear HI0; clear HK; clear HB; have HO_138004 := n0_; have BK124 := n1_; have BK137 := n2_; have HI0 := n3_; have HK := n4_; have HB := n5_; clear n0_ n1_ n2_ n3_ n4_ n5_; (try clear hb); (try clear hb2); (try clear hk); (try clear hi)))
      go_loopg [5] kj5 (fun kq v5 w' => ∃ (x5_2 : Int) (x1001_2 : Int) (x1002_2 : Int) (x138004_2 : List Int) (u138004 : Value), v5 = .int .i64 x5_2 ∧ Aside0 (spec_l1genFrame.l0 kq t147 x5_2 s0_0 x1001_2 x1002_2 (t125 == 1) t144 (t128 == 0) x138003_5 x138004_2 = some (r1, r2, r3, r4, r5, r6, r7)) ∧ Aside0 (kq ≤ kj5) ∧ Aside0 (Kd.R (Kd.int .u8) 5 w' w.heap.size (fun _ => True) u138004 x138004_2) ∧ Aside0 (w'.heap[gb124]? = some (.cells #[.bool false, .int .u32 0, .bool false, .int .i64 0, (.slice none 0 0)] 25 (0, 0))) ∧ Aside0 (w'.heap[gb137]? = some (.cells #[.bool (t125 == 1), .int .u32 t144, .bool (t128 == 0), .int .i64 x138003_5, u138004] 25 (0, 0))) ∧ Aside0 (IsS172 w0 w' g s0_0 x1001_2 x1002_2) ∧ Aside0 (KeepBut w w' g none) ∧ Aside0 (Below w0.heap.size w0 w'))
      case atStart => exact ⟨(0), (t145), (t146), (y134), (.slice Ao13 y134.length co13), (by first | rfl | (simp; done) | (simp [*]; done)), H', ⟨Nat.le_refl _⟩, ⟨by (with_reducible repeat (first | apply Kd.R_alloc | apply Kd.R_drewN | apply Kd.R_drew)); exact HO_138004.out⟩, ⟨by (with_reducible repeat (first | refine blk_drewN ?_ _ | refine blk_drew ?_ | refine blk_alloc ?_ _)); exact BK124.out⟩, ⟨by (with_reducible repeat (first | refine blk_drewN ?_ _ | refine blk_drew ?_ | refine blk_alloc ?_ _)); exact BK137.out⟩, ⟨by repeat (first | (with_reducible first | exact HI0.out | apply IsS172.alloc | apply IsS172.drewN | apply IsS172.drew | apply IsS172.set_1 | apply IsS172.set_2 | refine IsS172.far ?_ NB0_124.out _ | refine IsS172.far ?_ NB0_137.out _) | exact HI0.out)⟩, ⟨by repeat (first | (with_reducible first | exact HK.out | apply KeepBut.set_ | apply keep_drewN | apply keep_drew | apply keep_alloc | refine keep_far ?_ GW124.out _ | refine keep_far ?_ GW137.out _) | exact HK.out)⟩, ⟨by repeat (first | (with_reducible first | exact HB.out | apply below_alloc | apply pw_below_drewN | apply below_drew1 | refine below_set ?_ (IsS172.ge HI0.out) | refine below_set ?_ GE124.out | refine below_set ?_ GE137.out) | exact HB.out)⟩⟩
      case round =>
        clear H'
        try clear c1
        try clear c2
        try clear p2
        try clear c7
        try clear c13
        try clear c15
        try clear c16
        try clear c19
        try clear c19b0
        try clear c19b1
        try clear c22
        try clear c23
        try clear c27
        try clear c28
        try clear hcz17_0
        try clear hcz17_1
        try clear hcz17_2
        try clear hcz17_3
        try clear hcz17_4
        try clear hcz24_0
        try clear hcz24_1
        try clear hcz24_2
        try clear hcz24_3
        try clear hcz24_4
        try clear hcz29_0
        try clear hcz29_1
        try clear hcz29_2
        try clear hcz29_3
        try clear hcz29_4
        try clear hcz31_0
        try clear hcz31_1
        try clear hcz31_2
        try clear hcz31_3
        try clear hcz31_4
        try clear hfz17_0
        try clear hfz17_1
        try clear hfz17_2
        try clear hfz17_3
        try clear hfz17_4
        try clear hfz24_0
        try clear hfz24_1
        try clear hfz24_2
        try clear hfz24_3
        try clear hfz24_4
        try clear hfz29_0
        try clear hfz29_1
        try clear hfz29_2
        try clear hfz29_3
        try clear hfz29_4
        try clear hfz31_0
        try clear hfz31_1
        try clear hfz31_2
        try clear hfz31_3
        try clear hfz31_4
        try clear p2
        obtain ⟨x5_2, x1001_2, x1002_2, x138004_2, u138004, rfl, HA, HK2, HO_138004, BK124, BK137, HI0, HK, HB⟩ := hrel
        cases gk with
        | zero => exact absurd HA.out (by simp [spec_l1genFrame.l0])
        | succ k2 =>
          have H := HA.out
          clear HA
          simp only [spec_l1genFrame.l0] at H
          by_cases c33 : x5_2 < t147
          · rw [if_pos c33] at H
            have c33b0 : decide (x5_2 < t147) = true := decide_eq_true c33
            clear c33
            replace H := Option.bind_eq_some_iff.mp H
            obtain ⟨⟨t148, t149, t150⟩, A340, H⟩ := H
            replace H : (if x138004_2.length < 140737488355328 then (spec_l1genFrame.l0 k2 t147 (wrap64 (x5_2 + 1)) s0_0 t149 t150 (t125 == 1) t144 (t128 == 0) x138003_5 (x138004_2 ++ [t148])) else (none)) = some (r1, r2, r3, r4, r5, r6, r7) := H
            have A34 := Aside0.mk A340
            clear A340
            by_cases c35 : x138004_2.length < 140737488355328
            · rw [if_pos c35] at H
              have LMc35 := Aside0.mk c35
              clear c35
              obtain ⟨y151, hy151⟩ : ∃ y_ : List Int, y_ = (x138004_2 ++ [t148]) := ⟨_, rfl⟩
              replace H : (spec_l1genFrame.l0 k2 t147 (wrap64 (x5_2 + 1)) s0_0 t149 t150 (t125 == 1) t144 (t128 == 0) x138003_5 y151) = some (r1, r2, r3, r4, r5, r6, r7) := by first | (rw [hy151]; with_reducible exact H) | (have H2_ := (Option.bind_some _ _).symm.trans H; rw [hy151]; with_reducible exact H2_) | (have H2_ := (Option.bind_some _ _).symm.trans H; with_reducible exact H2_) | with_reducible exact H | (rw [hy151]; exact H) | exact H
              have Ny151 := Aside0.mk hy151
              clear hy151
              have H' := Aside0.mk H
              clear H
              try go_wp2
              have n0_ := Aside0.mk (Kd.R_drew HO_138004.out)
              have n1_ := Aside0.mk (blk_drew BK124.out)
              have n2_ := Aside0.mk (blk_drew BK137.out)
              have n3_ := Aside0.mk (IsS172.drew HI0.out)
              have n4_ := Aside0.mk (keep_drew HK.out)
              have n5_ := Aside0.mk (below_drew1 HB.out)
              clear HO_138004
              clear BK124
              clear BK137
              clear HI0
              clear HK
              clear HB
              have HO_138004 := n0_
              have BK124 := n1_
              have BK137 := n2_
              have HI0 := n3_
              have HK := n4_
              have HB := n5_
              clear n0_ n1_ n2_ n3_ n4_ n5_
              refine start_ (n := 8) (S := fun w' => w'.cell? ⟨gb137, 0, none⟩ = some (.bool (t125 == 1)) ∧ w'.cell? ⟨gb137, 1, none⟩ = some (.int .u32 t144) ∧ w'.cell? ⟨gb137, 2, none⟩ = some (.bool (t128 == 0)) ∧ w'.cell? ⟨gb137, 3, none⟩ = some (.int .i64 x138003_5) ∧ w'.cell? ⟨gb137, 4, none⟩ = some (u138004)) (ds := [7]) #[false, false, false, false, false, false, false, false] (by kernel_rfl) rfl rfl ⟨(blk_cell BK137.out 0).trans rfl, (blk_cell BK137.out 1).trans rfl, (blk_cell BK137.out 2).trans rfl, (blk_cell BK137.out 3).trans rfl, (blk_cell BK137.out 4).trans rfl⟩ (fun hHeld => ?_); refine with_tabW spec_l1genFrame.tab9 spec_l1genFrame.bits9 (fun HT_ HW_ => ?_)
              generalize wr.drew = w36 at HO_138004 BK124 BK137 HI0 HK HB hHeld ⊢
              refine pure_ (i := 0) (N := some 34) (v := ?_) (a' := ?_) #[true, false, false, false, false, false, false, false] rfl rfl (any_of HT_.out (by kernel_rfl)) (fun _ _ _ h => h) (Or.inl ⟨by rfl, ?_⟩) ?_ ?_
              rotate_left
              · intro w'
                go_simp
                with_reducible rfl
              rotate_left
              · simp only [Act.put, List.setIfInBounds_toArray, List.set_cons_zero, List.set_cons_succ, i64_w, i32_w]
                rfl
              refine pure_ (i := 2) (N := some 36) (v := ?_) (a' := ?_) #[true, false, true, false, false, false, false, false] rfl rfl (any_of HT_.out (by kernel_rfl)) (fun _ _ _ h => h) (Or.inl ⟨by rfl, ?_⟩) ?_ ?_
              rotate_left
              · intro w'
                go_simp
                with_reducible rfl
              rotate_left
              · simp only [Act.put, List.setIfInBounds_toArray, List.set_cons_zero, List.set_cons_succ, i64_w, i32_w]
                rfl
              refine take_ (i := 1) (N := some 35) (v := ?_) (a' := ?_) #[true, true, true, false, false, false, false, false] rfl rfl (take_ofW HT_.out HW_.out (by kernel_rfl)) (fun _ _ _ h => h) (Or.inl ⟨by rfl, ?_⟩) hHeld ?_ ?_
              rotate_left
              · rintro w' ⟨s0, s1, s2, s3, s4⟩
                go_simp
                with_reducible rfl
              rotate_left
              · simp only [Act.put, List.setIfInBounds_toArray, List.set_cons_zero, List.set_cons_succ, i64_w, i32_w]
                rfl
              refine one_ (i := 3) (N := some 37) #[true, true, true, true, false, false, false, false] rfl rfl (one_of HT_.out (by kernel_rfl)) (by decide) (fun K hK => ?_)
              refine goes_ Try.func158 (by kernel_rfl) rfl #[.pointer (some ⟨g, 0, none⟩)] (by rfl) rfl rfl (by (try simp only [List.map_toArray, List.map_cons, List.map_nil]); first | done | rfl | (simp only [List.length_drop, List.length_take]; rfl)) ?_
              with_reducible refine (spec_l1genByte.calls g s0_0 x1001_2 x1002_2 t148 t149 t150 w0 _ ?side1 ?side2 A34.out).mono ?_
              (case side1 => repeat (first | (with_reducible first | exact HI0.out | apply IsS172.alloc | apply IsS172.drewN | apply IsS172.drew | apply IsS172.set_1 | apply IsS172.set_2 | refine IsS172.far ?_ NB0_124.out _ | refine IsS172.far ?_ NB0_137.out _) | exact HI0.out))
              (case side2 => repeat (first | (with_reducible first | exact HB.out | apply below_alloc | apply pw_below_drewN | apply below_drew1 | refine below_set ?_ (IsS172.ge HI0.out) | refine below_set ?_ GE124.out | refine below_set ?_ GE137.out) | exact HB.out))
              rintro e w37 ⟨rfl, hi, hb, hk⟩
              refine ⟨_, rfl, ?_⟩
              have n0_ := Aside0.mk (Kd.R_mono (Kd.R_keep (IsS172.apart (show IsS172 w0 _ g s0_0 x1001_2 x1002_2 from by repeat (first | (with_reducible first | exact HI0.out | apply IsS172.alloc | apply IsS172.drewN | apply IsS172.drew | apply IsS172.set_1 | apply IsS172.set_2 | refine IsS172.far ?_ NB0_124.out _ | refine IsS172.far ?_ NB0_137.out _) | exact HI0.out)) (by (with_reducible repeat (first | apply Kd.R_alloc | apply Kd.R_drewN | apply Kd.R_drew)); exact HO_138004.out) (by decide)) hk (fun _ h => h.2)) (fun _ h => h.1))
              have n1_ := Aside0.mk (KeepBut.blk hk (g' := gb124) (o := .cells #[.bool false, .int .u32 0, .bool false, .int .i64 0, .slice none 0 0] 25 (0, 0)) (by (with_reducible repeat (first | refine blk_drewN ?_ _ | refine blk_drew ?_ | refine blk_alloc ?_ _)); exact BK124.out) NB124_0.out (by simp))
              have n2_ := Aside0.mk (KeepBut.blk hk (g' := gb137) (o := .cells #[.bool (t125 == 1), .int .u32 t144, .bool (t128 == 0), .int .i64 x138003_5, u138004] 25 (0, 0)) (by (with_reducible repeat (first | refine blk_drewN ?_ _ | refine blk_drew ?_ | refine blk_alloc ?_ _)); exact BK137.out) NB137_0.out (by simp))
              have n3_ := Aside0.mk (KeepBut.trans (by repeat (first | (with_reducible first | exact HK.out | apply KeepBut.set_ | apply keep_drewN | apply keep_drew | apply keep_alloc | refine keep_far ?_ GW124.out _ | refine keep_far ?_ GW137.out _) | exact HK.out)) hk (.inl rfl))
              have n4_ := Aside0.mk (hb)
              have n5_ := Aside0.mk (hi)
              clear HO_138004
              clear BK124
              clear BK137
              clear HK
              clear HB
              clear HI0
              have HO_138004 := n0_
              have BK124 := n1_
              have BK137 := n2_
              have HK := n3_
              have HB := n4_
              have HI0 := n5_
              clear n0_ n1_ n2_ n3_ n4_ n5_
              (try clear hb)
              (try clear hb2)
              (try clear hk)
              (try clear hi)
              refine hK.out _ _ ⟨(blk_cell BK137.out 0).trans rfl, (blk_cell BK137.out 1).trans rfl, (blk_cell BK137.out 2).trans rfl, (blk_cell BK137.out 3).trans rfl, (blk_cell BK137.out 4).trans rfl⟩ (fun hHeld => ?_)
              clear hK K
              refine norm_ (a' := ?_) ?_ ?_
              rotate_left
              · show Act.put _ (some 37) _ = _
                simp only [Act.put, List.setIfInBounds_toArray, List.set_cons_zero, List.set_cons_succ, i64_w, i32_w]
                rfl
              refine one_ (i := 4) (N := some 38) #[true, true, true, true, true, false, false, false] rfl rfl (one_of HT_.out (by kernel_rfl)) (by decide) (fun K hK => ?_)
              refine value_ (w1 := ?_) (v := ?_) (by rfl) rfl ?_ ?_
              rotate_left 2
              · go_simp
                constructor
                · rfl
                · rfl
              refine hK.out _ _ ⟨(blk_cell (blk_alloc BK137.out _) 0).trans rfl, (blk_cell (blk_alloc BK137.out _) 1).trans rfl, (blk_cell (blk_alloc BK137.out _) 2).trans rfl, (blk_cell (blk_alloc BK137.out _) 3).trans rfl, (blk_cell (blk_alloc BK137.out _) 4).trans rfl⟩ (fun hHeld => ?_)
              clear hK K
              refine norm_ (a' := ?_) ?_ ?_
              rotate_left
              · show Act.put _ (some 38) _ = _
                simp only [Act.put, List.setIfInBounds_toArray, List.set_cons_zero, List.set_cons_succ, i64_w, i32_w]
                rfl
              refine one_ (i := 5) (N := some 39) #[true, true, true, true, true, true, false, false] rfl rfl (one_of HT_.out (by kernel_rfl)) (by decide) (fun K hK => ?_)
              refine Kd.R_append_step (Kd.int .u8) w.heap.size (by rfl) (.tmp 35) (.tmp 38) 22 5 (.int .u8 0) 1 rfl Try.underlying22 info5 rfl (by decide) (by omega) u138004 x138004_2 t148 [.int .u8 t148] (fun _ => True) (fun _ => False) rfl rfl ?aP (fun _ hk => hk.elim) ?aF ?aO (Below.refl _ _) ?aS ?aL ?_
              (case aP => exact rfl)
              (case aF => exact (fun _ _ => trivial))
              (case aO => exact (by (with_reducible repeat (first | apply Kd.R_alloc | apply Kd.R_drewN | apply Kd.R_drew)); exact HO_138004.out))
              (case aS => exact (keep_size (w := w) (g := g) (row := none) (by repeat (first | (with_reducible first | exact HK.out | apply KeepBut.set_ | apply keep_drewN | apply keep_drew | apply keep_alloc | refine keep_far ?_ GW124.out _ | refine keep_far ?_ GW137.out _) | exact HK.out))))
              (case aL => have := LMc35.out; omega)
              intro v152 w38 ho hb hg hat
              rw [← Ny151.out] at ho
              have n0_ := Aside0.mk (blk_grown (g := gb124) (o := .cells #[.bool false, .int .u32 0, .bool false, .int .i64 0, .slice none 0 0] 25 (0, 0)) (by (with_reducible repeat (first | refine blk_drewN ?_ _ | refine blk_drew ?_ | refine blk_alloc ?_ _)); exact BK124.out) hg (Kd.R_ne HO_138004.out BK124.out (by decide)))
              have n1_ := Aside0.mk (blk_grown (g := gb137) (o := .cells #[.bool (t125 == 1), .int .u32 t144, .bool (t128 == 0), .int .i64 x138003_5, u138004] 25 (0, 0)) (by (with_reducible repeat (first | refine blk_drewN ?_ _ | refine blk_drew ?_ | refine blk_alloc ?_ _)); exact BK137.out) hg (Kd.R_ne HO_138004.out BK137.out (by decide)))
              have n2_ := Aside0.mk (IsS172.grown (by repeat (first | (with_reducible first | exact HI0.out | apply IsS172.alloc | apply IsS172.drewN | apply IsS172.drew | apply IsS172.set_1 | apply IsS172.set_2 | refine IsS172.far ?_ NB0_124.out _ | refine IsS172.far ?_ NB0_137.out _) | exact HI0.out)) hg (IsS172.own_ne HI0.out HO_138004.out (by decide)))
              have n3_ := Aside0.mk (below_weaken (by repeat (first | (with_reducible first | exact HB.out | apply below_alloc | apply pw_below_drewN | apply below_drew1 | refine below_set ?_ (IsS172.ge HI0.out) | refine below_set ?_ GE124.out | refine below_set ?_ GE137.out) | exact HB.out)) HL.out hb)
              have n4_ := Aside0.mk (KeepBut.trans (by repeat (first | (with_reducible first | exact HK.out | apply KeepBut.set_ | apply keep_drewN | apply keep_drew | apply keep_alloc | refine keep_far ?_ GW124.out _ | refine keep_far ?_ GW137.out _) | exact HK.out)) (KeepBut.of_grown hg g) (Kd.R_base2 HO_138004.out))
              have n5_ := Aside0.mk (ho)
              clear BK124
              clear BK137
              clear HI0
              clear HB
              clear HK
              clear HO_138004
              have BK124 := n0_
              have BK137 := n1_
              have HI0 := n2_
              have HB := n3_
              have HK := n4_
              have HO153 := n5_
              clear n0_ n1_ n2_ n3_ n4_ n5_
              clear ho hb hg hat
              obtain ⟨Ao39, co39, eo39⟩ := Kd.R_slice HO153.out
              (first | subst eo39 | (injection eo39 with f1_ f2_ f3_; have f4_ := f1_.symm; have f5_ := f3_.symm; clear f1_ f2_ f3_; subst f4_; subst f5_))
              refine hK.out _ _ ⟨(blk_cell BK137.out 0).trans rfl, (blk_cell BK137.out 1).trans rfl, (blk_cell BK137.out 2).trans rfl, (blk_cell BK137.out 3).trans rfl, (blk_cell BK137.out 4).trans rfl⟩ (fun hHeld => ?_)
              clear hK K
              refine norm_ (a' := ?_) ?_ ?_
              rotate_left
              · show Act.put _ (some 39) _ = _
                simp only [Act.put, List.setIfInBounds_toArray, List.set_cons_zero, List.set_cons_succ, i64_w, i32_w]
                rfl
              refine pure_ (i := 6) (N := some 40) (v := ?_) (a' := ?_) #[true, true, true, true, true, true, true, false] rfl rfl (any_of HT_.out (by kernel_rfl)) (fun _ _ _ h => h) (Or.inl ⟨by rfl, ?_⟩) ?_ ?_
              rotate_left
              · intro w'
                go_simp
                with_reducible rfl
              rotate_left
              · simp only [Act.put, List.setIfInBounds_toArray, List.set_cons_zero, List.set_cons_succ, i64_w, i32_w]
                rfl
              refine last_ (i := 7) (N := none) #[true, true, true, true, true, true, true, true] rfl rfl (one_of HT_.out (by kernel_rfl)) (by decide) (fun K hK => ?_)
              have hs40 : w38.cell? ⟨gb137, 4, none⟩ = some (u138004) := (blk_cell BK137.out 4).trans rfl
              have hfs40 := blk_frozen BK137.out 4
              have hns40_0 := NB124_137.out
              have hms40_0 := NB137_124.out
              refine skip_ (w1 := ?_) (by rfl) rfl ?_ ?_
              rotate_left
              · go_simp
                rfl
              refine hK.out _ _ ?_
              clear hK K
              refine done_ (done_of HT_.out (by kernel_rfl)) ?_
              try go_wp2
              go_roundg k2
              case measure => have := HJ5.out; have := HK2.out; omega
              case rel => exact ⟨(wrap64 (x5_2 + 1)), (t149), (t150), (y151), (.slice Ao39 y151.length co39), (by first | rfl | (simp; done) | (simp [*]; done)), H', ⟨by have := HJ5.out; have := HK2.out; omega⟩, ⟨by (with_reducible repeat (first | apply Kd.R_alloc | apply Kd.R_drewN | apply Kd.R_drew)); exact Kd.R_mono (Kd.R_far (p := ⟨gb137, 4, none⟩) (Kd.R_types HO153.out BK137.out (by decide)) (fun _ hk => hk.2) (.slice Ao39 y151.length co39)) (fun _ hk => trivial)⟩, ⟨by (with_reducible repeat (first | refine blk_drewN ?_ _ | refine blk_drew ?_ | refine blk_alloc ?_ _)); refine blk_far ?_ NB124_137.out _; (with_reducible repeat (first | refine blk_drewN ?_ _ | refine blk_drew ?_ | refine blk_alloc ?_ _)); exact BK124.out⟩, ⟨by (with_reducible repeat (first | refine blk_drewN ?_ _ | refine blk_drew ?_ | refine blk_alloc ?_ _)); refine blk_put (cs := #[.bool (t125 == 1), .int .u32 t144, .bool (t128 == 0), .int .i64 x138003_5, u138004]) ?_ 4 _ rfl; (with_reducible repeat (first | refine blk_drewN ?_ _ | refine blk_drew ?_ | refine blk_alloc ?_ _)); exact BK137.out⟩, ⟨by repeat (first | (with_reducible first | exact HI0.out | apply IsS172.alloc | apply IsS172.drewN | apply IsS172.drew | apply IsS172.set_1 | apply IsS172.set_2 | refine IsS172.far ?_ NB0_124.out _ | refine IsS172.far ?_ NB0_137.out _) | exact HI0.out)⟩, ⟨by repeat (first | (with_reducible first | exact HK.out | apply KeepBut.set_ | apply keep_drewN | apply keep_drew | apply keep_alloc | refine keep_far ?_ GW124.out _ | refine keep_far ?_ GW137.out _) | exact HK.out)⟩, ⟨by repeat (first | (with_reducible first | exact HB.out | apply below_alloc | apply pw_below_drewN | apply below_drew1 | refine below_set ?_ (IsS172.ge HI0.out) | refine below_set ?_ GE124.out | refine below_set ?_ GE137.out) | exact HB.out)⟩⟩
            · rw [if_neg c35] at H
              exact absurd H (by simp)
          · rw [if_neg c33] at H
            have c33b0 : decide (x5_2 < t147) = false := decide_eq_false c33
            clear c33
            simp only [Option.some.injEq, Prod.mk.injEq] at H
            obtain ⟨rfl, rfl, rfl, rfl, rfl, rfl, rfl⟩ := H
            have hnb41 := NB137_124.out
            have hnc41 := NB124_137.out
            have hnb42 := NB137_0.out
            have hnc42 := NB0_137.out
            have hcz43_0 : wr.cell? ⟨gb137, 0, none⟩ = some (.bool (t125 == 1)) := (blk_cell BK137.out 0).trans rfl
            have hcz43_1 : wr.cell? ⟨gb137, 1, none⟩ = some (.int .u32 t144) := (blk_cell BK137.out 1).trans rfl
            have hcz43_2 : wr.cell? ⟨gb137, 2, none⟩ = some (.bool (t128 == 0)) := (blk_cell BK137.out 2).trans rfl
            have hcz43_3 : wr.cell? ⟨gb137, 3, none⟩ = some (.int .i64 x138003_5) := (blk_cell BK137.out 3).trans rfl
            have hcz43_4 : wr.cell? ⟨gb137, 4, none⟩ = some (u138004) := (blk_cell BK137.out 4).trans rfl
            have hfz43_0 := blk_frozen BK137.out 0
            have hfz43_1 := blk_frozen BK137.out 1
            have hfz43_2 := blk_frozen BK137.out 2
            have hfz43_3 := blk_frozen BK137.out 3
            have hfz43_4 := blk_frozen BK137.out 4
            have hnb44 := NB124_0.out
            have hnc44 := NB0_124.out
            have hcz45_0 : wr.cell? ⟨gb124, 0, none⟩ = some (.bool false) := (blk_cell BK124.out 0).trans rfl
            have hcz45_1 : wr.cell? ⟨gb124, 1, none⟩ = some (.int .u32 0) := (blk_cell BK124.out 1).trans rfl
            have hcz45_2 : wr.cell? ⟨gb124, 2, none⟩ = some (.bool false) := (blk_cell BK124.out 2).trans rfl
            have hcz45_3 : wr.cell? ⟨gb124, 3, none⟩ = some (.int .i64 0) := (blk_cell BK124.out 3).trans rfl
            have hcz45_4 : wr.cell? ⟨gb124, 4, none⟩ = some (.slice none 0 0) := (blk_cell BK124.out 4).trans rfl
            have hfz45_0 := blk_frozen BK124.out 0
            have hfz45_1 := blk_frozen BK124.out 1
            have hfz45_2 := blk_frozen BK124.out 2
            have hfz45_3 := blk_frozen BK124.out 3
            have hfz45_4 := blk_frozen BK124.out 4
            obtain ⟨Ao46, co46, eo46⟩ := Kd.R_slice HO_138004.out
            subst eo46
            go_wp2
            refine bodyPost_ret (results_cell_row rfl _ _ gb124 25 #[.bool (t125 == 1), .int .u32 t144, .bool (t128 == 0), .int .i64 x138003_5, .slice Ao46 x138004_2.length co46] (0, 0) _ rfl (by (with_reducible repeat (first | refine blk_drewN ?_ _ | refine blk_drew ?_ | refine blk_alloc ?_ _)); refine blk_put (cs := #[.bool (t125 == 1), .int .u32 t144, .bool (t128 == 0), .int .i64 x138003_5, .slice none 0 0]) ?_ 4 _ rfl; (with_reducible repeat (first | refine blk_drewN ?_ _ | refine blk_drew ?_ | refine blk_alloc ?_ _)); refine blk_put (cs := #[.bool (t125 == 1), .int .u32 t144, .bool (t128 == 0), .int .i64 0, .slice none 0 0]) ?_ 3 _ rfl; (with_reducible repeat (first | refine blk_drewN ?_ _ | refine blk_drew ?_ | refine blk_alloc ?_ _)); refine blk_put (cs := #[.bool (t125 == 1), .int .u32 t144, .bool false, .int .i64 0, .slice none 0 0]) ?_ 2 _ rfl; (with_reducible repeat (first | refine blk_drewN ?_ _ | refine blk_drew ?_ | refine blk_alloc ?_ _)); refine blk_put (cs := #[.bool (t125 == 1), .int .u32 0, .bool false, .int .i64 0, .slice none 0 0]) ?_ 1 _ rfl; (with_reducible repeat (first | refine blk_drewN ?_ _ | refine blk_drew ?_ | refine blk_alloc ?_ _)); refine blk_put (cs := #[.bool false, .int .u32 0, .bool false, .int .i64 0, .slice none 0 0]) ?_ 0 _ rfl; (with_reducible repeat (first | refine blk_drewN ?_ _ | refine blk_drew ?_ | refine blk_alloc ?_ _)); exact BK124.out) Try.underlying25 rfl (by kernel_rfl)) rfl ?_
            exact ⟨_, by first | rfl | (simp [errW_none, errW_some] <;> rfl) | (simp [*, errW_none, errW_some] <;> rfl), by (with_reducible repeat (first | apply Kd.R_alloc | apply Kd.R_drewN | apply Kd.R_drew)); exact Kd.R_mono (Kd.R_far (p := ⟨gb124, 4, none⟩) (Kd.R_far (p := ⟨gb124, 3, none⟩) (Kd.R_far (p := ⟨gb124, 2, none⟩) (Kd.R_far (p := ⟨gb124, 1, none⟩) (Kd.R_far (p := ⟨gb124, 0, none⟩) (Kd.R_types HO_138004.out BK124.out (by decide)) (fun _ hk => hk.2) (.bool (t125 == 1))) (fun _ hk => hk.2) (.int .u32 t144)) (fun _ hk => hk.2) (.bool (t128 == 0))) (fun _ hk => hk.2) (.int .i64 x138003_5)) (fun _ hk => hk.2) (.slice Ao46 x138004_2.length co46)) (fun _ hk => trivial), by repeat (first | (with_reducible first | exact HI0.out | apply IsS172.alloc | apply IsS172.drewN | apply IsS172.drew | apply IsS172.set_1 | apply IsS172.set_2 | refine IsS172.far ?_ NB0_124.out _ | refine IsS172.far ?_ NB0_137.out _) | exact HI0.out), by repeat (first | (with_reducible first | exact HB.out | apply below_alloc | apply pw_below_drewN | apply below_drew1 | refine below_set ?_ (IsS172.ge HI0.out) | refine below_set ?_ GE124.out | refine below_set ?_ GE137.out) | exact HB.out), by repeat (first | (with_reducible first | exact HK.out | apply KeepBut.set_ | apply keep_drewN | apply keep_drew | apply keep_alloc | refine keep_far ?_ GW124.out _ | refine keep_far ?_ GW137.out _) | exact HK.out)⟩
end Go.Proofs.Ytdoclpgciadjaaa.P
