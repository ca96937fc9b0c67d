/- Texts of the proof of FnExactDecode, joined. -/
import Derived.Test.YtdoclpgciadjaaaSFnExactDecode21
import Derived.Test.YtdoclpgciadjaaaSFnExactDecode22
namespace Go.Proofs.Ytdoclpgciadjaaa.P
open Go.RowKit Go.Proofs.YtdoclpgciadjaaaW.PrintWords Go.Proofs.YtdoclpgciadjaaaW.PrintLast Go.Proofs.YtdoclpgciadjaaaW.PrintMore
set_option linter.unusedVariables false
set_option linter.unusedSimpArgs false
mutual
def spec_Crc15.l0 : Nat → ByteArray → List Int → Int → Option (Int)
  | 0, _, _, _ => none
  | k + 1, x0, x3, x4 => if x4 < (x0.size : Int) then (if 0 ≤ x4 then (if x3.length < 140737488355328 then (spec_Crc15.l0 k x0 (x3 ++ [((bt x0 x4) - 48) % 256]) (wrap64 (x4 + 1))) else (none)) else (none)) else (spec_Crc15.l1 k x3 0)
def spec_Crc15.l1 : Nat → List Int → Int → Option (Int)
  | 0, _, _ => none
  | k + 1, x3, x5 => if x5 < 15 then (if x3.length < 140737488355328 then (spec_Crc15.l1 k (x3 ++ [0]) (wrap64 (x5 + 1))) else (none)) else (spec_Crc15.l2 k x3 (⟨#[49, 49, 48, 48, 48, 49, 48, 49, 49, 48, 48, 49, 49, 48, 48, 49]⟩ : ByteArray) 0)
def spec_Crc15.l2 : Nat → List Int → ByteArray → Int → Option (Int)
  | 0, _, _, _ => none
  | k + 1, x3, x6, x7 => if (wrap64 (x7 + 15)) < (x3.length : Int) then (if 0 ≤ x7 then (if x7 < (x3.length : Int) then (if (rd x3 x7) = 1 then (spec_Crc15.l3 k x3 x6 x7 0) else (spec_Crc15.l2 k x3 x6 (wrap64 (x7 + 1)))) else (none)) else (none)) else (spec_Crc15.l4 k x3 0 (wrap64 ((x3.length : Int) - 15)))
def spec_Crc15.l3 : Nat → List Int → ByteArray → Int → Int → Option (Int)
  | 0, _, _, _, _ => none
  | k + 1, x3, x6, x7, x8 => if x8 < 16 then (if 0 ≤ (wrap64 (x7 + x8)) then (if (wrap64 (x7 + x8)) < (x3.length : Int) then (if 0 ≤ x8 then (if x8 < (x6.size : Int) then (spec_Crc15.l3 k (x3.set ((wrap64 (x7 + x8)) : Int).toNat (Go.bits .xor .u8 (rd x3 (wrap64 (x7 + x8))) (((bt x6 x8) - 48) % 256))) x6 x7 (wrap64 (x8 + 1))) else (none)) else (none)) else (none)) else (none)) else (spec_Crc15.l2 k x3 x6 (wrap64 (x7 + 1)))
def spec_Crc15.l4 : Nat → List Int → Int → Int → Option (Int)
  | 0, _, _, _ => none
  | k + 1, x3, x9, x10 => if x10 < (x3.length : Int) then (if 0 ≤ x10 then (spec_Crc15.l4 k x3 (wrap64 ((wrap64 (2 * x9)) + (wrap64 (rd x3 x10)))) (wrap64 (x10 + 1))) else (none)) else (some x9)
end
def spec_Crc15.f (k : Nat) (a0 : ByteArray) : Option (Int) := (spec_l1okBits.f k a0 2000).bind fun t155 => (if t155 = true then (spec_Crc15.l0 k a0 (([] : List Int)) 0) else (some (-1)))
theorem spec_Crc15.mono_l : ∀ k, (∀ y0 y1 y2, LeO (spec_Crc15.l0 k y0 y1 y2) (spec_Crc15.l0 (k + 1) y0 y1 y2)) ∧ (∀ y0 y1, LeO (spec_Crc15.l1 k y0 y1) (spec_Crc15.l1 (k + 1) y0 y1)) ∧ (∀ y0 y1 y2, LeO (spec_Crc15.l2 k y0 y1 y2) (spec_Crc15.l2 (k + 1) y0 y1 y2)) ∧ (∀ y0 y1 y2 y3, LeO (spec_Crc15.l3 k y0 y1 y2 y3) (spec_Crc15.l3 (k + 1) y0 y1 y2 y3)) ∧ (∀ y0 y1 y2, LeO (spec_Crc15.l4 k y0 y1 y2) (spec_Crc15.l4 (k + 1) y0 y1 y2))
  | 0 => ⟨fun _ _ _ r h => by simp [spec_Crc15.l0] at h, fun _ _ r h => by simp [spec_Crc15.l1] at h, fun _ _ _ r h => by simp [spec_Crc15.l2] at h, fun _ _ _ _ r h => by simp [spec_Crc15.l3] at h, fun _ _ _ r h => by simp [spec_Crc15.l4] at h⟩
  | k + 1 => by
    obtain ⟨ih0, ih1, ih2, ih3, ih4⟩ := spec_Crc15.mono_l k
    refine ⟨?_, ?_, ?_, ?_, ?_⟩
    · intro y0 y1 y2
      unfold spec_Crc15.l0
      repeat' first
      | (with_reducible exact ih0 _ _ _)
      | (with_reducible exact ih1 _ _)
      | (with_reducible exact ih2 _ _ _)
      | (with_reducible exact ih3 _ _ _ _)
      | (with_reducible exact ih4 _ _ _)
      | (with_reducible exact spec_l1okBits.mono _ _ _)
      | (with_reducible exact LeO.refl _)
      | (with_reducible exact LeO.none _)
      | (with_reducible refine LeO.ite ?_ ?_)
      | (with_reducible refine LeO.bind ?_ (fun _ => ?_))
      | exact ih0 _ _ _
      | exact ih1 _ _
      | exact ih2 _ _ _
      | exact ih3 _ _ _ _
      | exact ih4 _ _ _
      | exact spec_l1okBits.mono _ _ _
      | exact LeO.none _
      | refine LeO.ite ?_ ?_
      | refine LeO.bind ?_ (fun _ => ?_)
    · intro y0 y1
      unfold spec_Crc15.l1
      repeat' first
      | (with_reducible exact ih0 _ _ _)
      | (with_reducible exact ih1 _ _)
      | (with_reducible exact ih2 _ _ _)
      | (with_reducible exact ih3 _ _ _ _)
      | (with_reducible exact ih4 _ _ _)
      | (with_reducible exact spec_l1okBits.mono _ _ _)
      | (with_reducible exact LeO.refl _)
      | (with_reducible exact LeO.none _)
      | (with_reducible refine LeO.ite ?_ ?_)
      | (with_reducible refine LeO.bind ?_ (fun _ => ?_))
      | exact ih0 _ _ _
      | exact ih1 _ _
      | exact ih2 _ _ _
      | exact ih3 _ _ _ _
      | exact ih4 _ _ _
      | exact spec_l1okBits.mono _ _ _
      | exact LeO.none _
      | refine LeO.ite ?_ ?_
      | refine LeO.bind ?_ (fun _ => ?_)
    · intro y0 y1 y2
      unfold spec_Crc15.l2
      repeat' first
      | (with_reducible exact ih0 _ _ _)
      | (with_reducible exact ih1 _ _)
      | (with_reducible exact ih2 _ _ _)
      | (with_reducible exact ih3 _ _ _ _)
      | (with_reducible exact ih4 _ _ _)
      | (with_reducible exact spec_l1okBits.mono _ _ _)
      | (with_reducible exact LeO.refl _)
      | (with_reducible exact LeO.none _)
      | (with_reducible refine LeO.ite ?_ ?_)
      | (with_reducible refine LeO.bind ?_ (fun _ => ?_))
      | exact ih0 _ _ _
      | exact ih1 _ _
      | exact ih2 _ _ _
      | exact ih3 _ _ _ _
      | exact ih4 _ _ _
      | exact spec_l1okBits.mono _ _ _
      | exact LeO.none _
      | refine LeO.ite ?_ ?_
      | refine LeO.bind ?_ (fun _ => ?_)
    · intro y0 y1 y2 y3
      unfold spec_Crc15.l3
      repeat' first
      | (with_reducible exact ih0 _ _ _)
      | (with_reducible exact ih1 _ _)
      | (with_reducible exact ih2 _ _ _)
      | (with_reducible exact ih3 _ _ _ _)
      | (with_reducible exact ih4 _ _ _)
      | (with_reducible exact spec_l1okBits.mono _ _ _)
      | (with_reducible exact LeO.refl _)
      | (with_reducible exact LeO.none _)
      | (with_reducible refine LeO.ite ?_ ?_)
      | (with_reducible refine LeO.bind ?_ (fun _ => ?_))
      | exact ih0 _ _ _
      | exact ih1 _ _
      | exact ih2 _ _ _
      | exact ih3 _ _ _ _
      | exact ih4 _ _ _
      | exact spec_l1okBits.mono _ _ _
      | exact LeO.none _
      | refine LeO.ite ?_ ?_
      | refine LeO.bind ?_ (fun _ => ?_)
    · intro y0 y1 y2
      unfold spec_Crc15.l4
      repeat' first
      | (with_reducible exact ih0 _ _ _)
      | (with_reducible exact ih1 _ _)
      | (with_reducible exact ih2 _ _ _)
      | (with_reducible exact ih3 _ _ _ _)
      | (with_reducible exact ih4 _ _ _)
      | (with_reducible exact spec_l1okBits.mono _ _ _)
      | (with_reducible exact LeO.refl _)
      | (with_reducible exact LeO.none _)
      | (with_reducible refine LeO.ite ?_ ?_)
      | (with_reducible refine LeO.bind ?_ (fun _ => ?_))
      | exact ih0 _ _ _
      | exact ih1 _ _
      | exact ih2 _ _ _
      | exact ih3 _ _ _ _
      | exact ih4 _ _ _
      | exact spec_l1okBits.mono _ _ _
      | exact LeO.none _
      | refine LeO.ite ?_ ?_
      | refine LeO.bind ?_ (fun _ => ?_)
theorem spec_Crc15.mono : ∀ a0 k, LeO (spec_Crc15.f k a0) (spec_Crc15.f (k + 1) a0) := by
  intro a0 k
  obtain ⟨ih0, ih1, ih2, ih3, ih4⟩ := spec_Crc15.mono_l k
  unfold spec_Crc15.f
  repeat' first
      | (with_reducible exact ih0 _ _ _)
      | (with_reducible exact ih1 _ _)
      | (with_reducible exact ih2 _ _ _)
      | (with_reducible exact ih3 _ _ _ _)
      | (with_reducible exact ih4 _ _ _)
      | (with_reducible exact spec_l1okBits.mono _ _ _)
      | (with_reducible exact LeO.refl _)
      | (with_reducible exact LeO.none _)
      | (with_reducible refine LeO.ite ?_ ?_)
      | (with_reducible refine LeO.bind ?_ (fun _ => ?_))
      | exact ih0 _ _ _
      | exact ih1 _ _
      | exact ih2 _ _ _
      | exact ih3 _ _ _ _
      | exact ih4 _ _ _
      | exact spec_l1okBits.mono _ _ _
      | exact LeO.none _
      | refine LeO.ite ?_ ?_
      | refine LeO.bind ?_ (fun _ => ?_)
def spec_Crc15.T20 : Bool × List (List Nat × List Nat) := (true, [([], []), ([], []), ([], []), ([1, 2], [1, 2]), ([], []), ([], []), ([], []), ([5, 6], [5, 6]), ([4, 7], [4, 7]), ([8], [8]), ([], []), ([], []), ([10, 11], [10, 11]), ([12], [12]), ([9, 13], [9, 13]), ([0, 3, 0, 1, 2, 3, 4, 5, 6, 7, 8, 9, 10, 11, 12, 13, 14], [0, 3]), ([15, 14, 0, 1, 2, 3, 4, 5, 6, 7, 8, 9, 10, 11, 12, 13, 14], [14, 15])])
def spec_Crc15.B20 : List Nat := [0, 0, 0, 6, 0, 0, 0, 96, 240, 496, 0, 0, 3072, 7168, 16368, 32767, 65535]
theorem spec_Crc15.tab20 : rtab .any (opsOf Try.f107 20) = spec_Crc15.T20 := by kernel_rfl
theorem spec_Crc15.bits20 : waitsOk spec_Crc15.T20.2 spec_Crc15.B20 = true := by kernel_rfl
set_option maxHeartbeats 8000000 in
set_option maxRecDepth 100000 in
theorem spec_Crc15.calls (k : Nat) (a0 : ByteArray) (r : Int) (w : World) (h : spec_Crc15.f k a0 = some r) :
    Calls Try.prog 107 #[.string a0] w fun e w' => e = .returned (.int .i64 r) ∧ Below w.heap.size w w' := by
  have HB := Aside0.mk (Below.refl w.heap.size w)
  have H : ((spec_l1okBits.f k a0 2000).bind fun t155 => (if t155 = true then (spec_Crc15.l0 k a0 (([] : List Int)) 0) else (some (-1)))) = some r := h
  clear h
  replace H := Option.bind_eq_some_iff.mp H
  obtain ⟨t155, A20, H⟩ := H
  replace H : (if t155 = true then (spec_Crc15.l0 k a0 (([] : List Int)) 0) else (some (-1))) = some r := H
  have A2 := Aside0.mk A20
  clear A20
  by_cases c3 : t155 = true
  · subst c3
    have H1 : (spec_Crc15.l0 k a0 (([] : List Int)) 0) = some r := by rw [if_pos rfl] at H; exact H
    clear H
    have H := H1
    clear H1
    obtain ⟨y156, hy156⟩ : ∃ y_ : List Int, y_ = (([] : List Int)) := ⟨_, rfl⟩
    replace H : (spec_Crc15.l0 k a0 y156 0) = some r := by first | (rw [hy156]; with_reducible exact H) | (have H2_ := (Option.bind_some _ _).symm.trans H; rw [hy156]; with_reducible exact H2_) | (have H2_ := (Option.bind_some _ _).symm.trans H; with_reducible exact H2_) | with_reducible exact H | (rw [hy156]; exact H) | exact H
    have Ny156 := Aside0.mk hy156
    clear hy156
    have H' := Aside0.mk H
    clear H
    go_enter Try.func107, Try.ntmps107
    go_wp2_with (first | ((with_reducible refine gate_callee (f := 128) rfl ?_); refine goesL_ (some 12) rfl rfl Try.func128 (by kernel_rfl) rfl #[.string a0, .int .i64 2000] rfl (by (try simp only [List.map_toArray, List.map_cons, List.map_nil]); first | done | rfl | (simp only [List.length_drop, List.length_take]; rfl)) ?_; (with_reducible refine (spec_l1okBits.calls k a0 2000 true _ A2.out).mono ?_); rintro e w' ⟨rfl, ⟨nd, rfl⟩⟩; refine ⟨_, rfl, ?_⟩) | ((with_reducible refine gate_dst (N := 14) rfl ?_); refine Kd.R_lit (Kd.int .u8) _ 5 ?hg (N := 14) ?hd (xs := ([] : List Int)) (inner := []) (ok := fun _ => True) (okp := fun _ => True) ?hr ?hp (fun _ hk => hk) trivial (Below.refl _ _) (Nat.le_refl _) (by simp) ?_; (case hd => rfl); (case hg => rfl); (case hr => first | (go_simp; done) | (go_simp; rfl)); (case hp => exact (Reps.none _ _)); intro v157 w4 ho5 hb hg_ hnew_; clear hg_ hnew_; (first | rw [← Ny156.out] at ho5 | (simp only [Int.reduceToNat] at ho5; rw [← Ny156.out] at ho5)); have n0_ := Aside0.mk (Kd.R_lower ho5 (below_size (by repeat (first | (with_reducible first | exact HB.out | apply below_alloc | apply pw_below_drewN | apply below_drew1) | exact HB.out)))); have n1_ := Aside0.mk (below_step (by repeat (first | (with_reducible first | exact HB.out | apply below_alloc | apply pw_below_drewN | apply below_drew1) | exact HB.out)) hb); clear HB; have HO158 := n0_; have HB := n1_; clear n0_ n1_; clear hb ho5))
    go_loopg [3, 4] k (fun kq v3 v4 w' => ∃ (x3_1 : List Int) (x4_1 : Int), v4 = .int .i64 x4_1 ∧ Aside0 (spec_Crc15.l0 kq a0 x3_1 x4_1 = some r) ∧ Aside0 (kq ≤ k) ∧ Aside0 (Kd.R (Kd.int .u8) 5 w' w.heap.size (fun _ => True) v3 x3_1) ∧ Aside0 (Below w.heap.size w w'))
    case atStart => exact ⟨(y156), (0), (by first | rfl | (simp; done) | (simp [*]; done)), H', ⟨Nat.le_refl _⟩, ⟨by (with_reducible repeat (first | apply Kd.R_alloc | apply Kd.R_drewN | apply Kd.R_drew)); exact HO158.out⟩, ⟨by repeat (first | (with_reducible first | exact HB.out | apply below_alloc | apply pw_below_drewN | apply below_drew1) | exact HB.out)⟩⟩
    case round =>
      clear H'
      try clear c1
      try clear p2
      try clear c3
      obtain ⟨x3_1, x4_1, rfl, HA, HK1, HO_3, HB⟩ := hrel
      cases gk with
      | zero => exact absurd HA.out (by simp [spec_Crc15.l0])
      | succ k1 =>
        have H := HA.out
        clear HA
        simp only [spec_Crc15.l0] at H
        by_cases c6 : x4_1 < (a0.size : Int)
        · rw [if_pos c6] at H
          have c6b0 : decide (x4_1 < (a0.size : Int)) = true := decide_eq_true c6
          clear c6
          by_cases c7 : 0 ≤ x4_1
          · rw [if_pos c7] at H
            have c7b0 : decide (0 ≤ x4_1) = true := decide_eq_true c7
            clear c7
            by_cases c9 : x3_1.length < 140737488355328
            · rw [if_pos c9] at H
              have LMc9 := Aside0.mk c9
              clear c9
              obtain ⟨y159, hy159⟩ : ∃ y_ : List Int, y_ = (x3_1 ++ [((bt a0 x4_1) - 48) % 256]) := ⟨_, rfl⟩
              replace H : (spec_Crc15.l0 k1 a0 y159 (wrap64 (x4_1 + 1))) = some r := by first | (rw [hy159]; with_reducible exact H) | (have H2_ := (Option.bind_some _ _).symm.trans H; rw [hy159]; with_reducible exact H2_) | (have H2_ := (Option.bind_some _ _).symm.trans H; with_reducible exact H2_) | with_reducible exact H | (rw [hy159]; exact H) | exact H
              have Ny159 := Aside0.mk hy159
              clear hy159
              have H' := Aside0.mk H
              clear H
              have p8 : 0 ≤ (x4_1 : Int) := of_decide_eq_true (by first | (with_reducible assumption) | assumption)
              have q8 : x4_1 < (a0.size : Int) := of_decide_eq_true (by first | (with_reducible assumption) | assumption)
              have hx8 := bt_at a0 x4_1
              replace p8 := eq_true p8
              replace q8 := eq_true q8
              go_wp2_with (first | ((with_reducible refine gate_builtin (b := .append) (xs := #[.tmp 21, .tmp 26]) rfl ?_); at_builtin; refine Kd.R_append (Kd.int .u8) (w0 := w) w.heap.size rfl (.tmp 21) (.tmp 26) 22 5 (.int .u8 0) 1 rfl Try.underlying22 info5 rfl (by decide) (by omega) u3 x3_1 (((bt a0 x4_1) - 48) % 256) [.int .u8 (((bt a0 x4_1) - 48) % 256)] (fun _ => True) (fun _ => False) rfl rfl ?aP (fun _ hk => hk.elim) ?aF ?aO ?aB ?aS ?aL ?_; (case aP => exact rfl); (case aB => exact (by repeat (first | (with_reducible first | exact HB.out | apply below_alloc | apply pw_below_drewN | apply below_drew1) | exact HB.out))); (case aF => exact (fun _ _ => trivial)); (case aO => exact (by (with_reducible repeat (first | apply Kd.R_alloc | apply Kd.R_drewN | apply Kd.R_drew)); exact HO_3.out)); (case aS => exact (below_size (by repeat (first | (with_reducible first | exact HB.out | apply below_alloc | apply pw_below_drewN | apply below_drew1) | exact HB.out)))); (case aL => have := LMc9.out; omega); intro v160 w10 ho hb hg hat; rw [← Ny159.out] at ho; have n0_ := Aside0.mk (hb); have n1_ := Aside0.mk (ho); clear HB; clear HO_3; have HB := n0_; have HO161 := n1_; clear n0_ n1_; clear ho hb hg hat))
              go_roundg k1
              case measure => have := HK1.out; omega
              case rel => exact ⟨(y159), (wrap64 (x4_1 + 1)), (by first | rfl | (simp; done) | (simp [*]; done)), H', ⟨by have := HK1.out; omega⟩, ⟨by (with_reducible repeat (first | apply Kd.R_alloc | apply Kd.R_drewN | apply Kd.R_drew)); exact HO161.out⟩, ⟨by repeat (first | (with_reducible first | exact HB.out | apply below_alloc | apply pw_below_drewN | apply below_drew1) | exact HB.out)⟩⟩
            · rw [if_neg c9] at H
              exact absurd H (by simp)
          · rw [if_neg c7] at H
            exact absurd H (by simp)
        · rw [if_neg c6] at H
          have c6b0 : decide (x4_1 < (a0.size : Int)) = false := decide_eq_false c6
          clear c6
          have H' := Aside0.mk H
          clear H
          go_wp2
          go_loopg [3, 5] k1 (fun kq v3 v5 w' => ∃ (x3_2 : List Int) (x5_2 : Int), v5 = .int .i64 x5_2 ∧ Aside0 (spec_Crc15.l1 kq x3_2 x5_2 = some r) ∧ Aside0 (kq ≤ k1) ∧ Aside0 (Kd.R (Kd.int .u8) 5 w' w.heap.size (fun _ => True) v3 x3_2) ∧ Aside0 (Below w.heap.size w w'))
          case atStart => exact ⟨(x3_1), (0), (by first | rfl | (simp; done) | (simp [*]; done)), H', ⟨Nat.le_refl _⟩, ⟨by (with_reducible repeat (first | apply Kd.R_alloc | apply Kd.R_drewN | apply Kd.R_drew)); exact HO_3.out⟩, ⟨by repeat (first | (with_reducible first | exact HB.out | apply below_alloc | apply pw_below_drewN | apply below_drew1) | exact HB.out)⟩⟩
          case round =>
            clear H'
            try clear c1
            try clear p2
            try clear c3
            try clear c6
            try clear c6b0
            try clear p6
            try clear c7
            try clear c7b0
            try clear p8
            try clear q8
            try clear hx8
            try clear c9
            try clear c10
            try clear p2
            try clear p8
            try clear q8
            obtain ⟨x3_2, x5_2, rfl, HA, HK2, HO_3, HB⟩ := hrel
            cases gk with
            | zero => exact absurd HA.out (by simp [spec_Crc15.l1])
            | succ k2 =>
              have H := HA.out
              clear HA
              simp only [spec_Crc15.l1] at H
              by_cases c11 : x5_2 < 15
              · rw [if_pos c11] at H
                have c11b0 : decide (x5_2 < 15) = true := decide_eq_true c11
                clear c11
                by_cases c12 : x3_2.length < 140737488355328
                · rw [if_pos c12] at H
                  have LMc12 := Aside0.mk c12
                  clear c12
                  obtain ⟨y162, hy162⟩ : ∃ y_ : List Int, y_ = (x3_2 ++ [0]) := ⟨_, rfl⟩
                  replace H : (spec_Crc15.l1 k2 y162 (wrap64 (x5_2 + 1))) = some r := by first | (rw [hy162]; with_reducible exact H) | (have H2_ := (Option.bind_some _ _).symm.trans H; rw [hy162]; with_reducible exact H2_) | (have H2_ := (Option.bind_some _ _).symm.trans H; with_reducible exact H2_) | with_reducible exact H | (rw [hy162]; exact H) | exact H
                  have Ny162 := Aside0.mk hy162
                  clear hy162
                  have H' := Aside0.mk H
                  clear H
                  go_wp2_with (first | ((with_reducible refine gate_builtin (b := .append) (xs := #[.tmp 32, .tmp 33]) rfl ?_); at_builtin; refine Kd.R_append (Kd.int .u8) (w0 := w) w.heap.size rfl (.tmp 32) (.tmp 33) 22 5 (.int .u8 0) 1 rfl Try.underlying22 info5 rfl (by decide) (by omega) u3 x3_2 0 [.int .u8 0] (fun _ => True) (fun _ => False) rfl rfl ?aP (fun _ hk => hk.elim) ?aF ?aO ?aB ?aS ?aL ?_; (case aP => exact rfl); (case aB => exact (by repeat (first | (with_reducible first | exact HB.out | apply below_alloc | apply pw_below_drewN | apply below_drew1) | exact HB.out))); (case aF => exact (fun _ _ => trivial)); (case aO => exact (by (with_reducible repeat (first | apply Kd.R_alloc | apply Kd.R_drewN | apply Kd.R_drew)); exact HO_3.out)); (case aS => exact (below_size (by repeat (first | (with_reducible first | exact HB.out | apply below_alloc | apply pw_below_drewN | apply below_drew1) | exact HB.out)))); (case aL => have := LMc12.out; omega); intro v163 w13 ho hb hg hat; rw [← Ny162.out] at ho; have n0_ := Aside0.mk (hb); have n1_ := Aside0.mk (ho); clear HB; clear HO_3; have HB := n0_; have HO164 := n1_; clear n0_ n1_; clear ho hb hg hat))
                  go_roundg k2
                  case measure => have := HK1.out; have := HK2.out; omega
                  case rel => exact ⟨(y162), (wrap64 (x5_2 + 1)), (by first | rfl | (simp; done) | (simp [*]; done)), H', ⟨by have := HK1.out; have := HK2.out; omega⟩, ⟨by (with_reducible repeat (first | apply Kd.R_alloc | apply Kd.R_drewN | apply Kd.R_drew)); exact HO164.out⟩, ⟨by repeat (first | (with_reducible first | exact HB.out | apply below_alloc | apply pw_below_drewN | apply below_drew1) | exact HB.out)⟩⟩
                · rw [if_neg c12] at H
                  exact absurd H (by simp)
              · rw [if_neg c11] at H
                have c11b0 : decide (x5_2 < 15) = false := decide_eq_false c11
                clear c11
                have H' := Aside0.mk H
                clear H
                go_wp2
                go_loopg [7] k2 (fun kq v7 w' => ∃ (x3_3 : List Int) (x7_3 : Int), v7 = .int .i64 x7_3 ∧ Aside0 (spec_Crc15.l2 kq x3_3 (⟨#[49, 49, 48, 48, 48, 49, 48, 49, 49, 48, 48, 49, 49, 48, 48, 49]⟩ : ByteArray) x7_3 = some r) ∧ Aside0 (kq ≤ k2) ∧ Aside0 (Kd.R (Kd.int .u8) 5 w' w.heap.size (fun _ => True) u3 x3_3) ∧ Aside0 (Below w.heap.size w w'))
                case atStart => exact ⟨(x3_2), (0), (by first | rfl | (simp; done) | (simp [*]; done)), H', ⟨Nat.le_refl _⟩, ⟨by (with_reducible repeat (first | apply Kd.R_alloc | apply Kd.R_drewN | apply Kd.R_drew)); exact HO_3.out⟩, ⟨by repeat (first | (with_reducible first | exact HB.out | apply below_alloc | apply pw_below_drewN | apply below_drew1) | exact HB.out)⟩⟩
                case round =>
                  clear H'
                  try clear c1
                  try clear p2
                  try clear c3
                  try clear c6
                  try clear c6b0
                  try clear p6
                  try clear c7
                  try clear c7b0
                  try clear p8
                  try clear q8
                  try clear hx8
                  try clear c9
                  try clear c10
                  try clear c11
                  try clear c11b0
                  try clear c12
                  try clear p2
                  try clear p6
                  try clear p8
                  try clear q8
                  obtain ⟨x3_3, x7_3, rfl, HA, HK3, HO_3, HB⟩ := hrel
                  cases gk with
                  | zero => exact absurd HA.out (by simp [spec_Crc15.l2])
                  | succ k3 =>
                    have H := HA.out
                    clear HA
                    simp only [spec_Crc15.l2] at H
                    by_cases c14 : (wrap64 (x7_3 + 15)) < (x3_3.length : Int)
                    · rw [if_pos c14] at H
                      have c14b0 : decide ((wrap64 (x7_3 + 15)) < (x3_3.length : Int)) = true := decide_eq_true c14
                      clear c14
                      by_cases c15 : 0 ≤ x7_3
                      · rw [if_pos c15] at H
                        have c15b0 : decide (0 ≤ x7_3) = true := decide_eq_true c15
                        clear c15
                        by_cases c16 : x7_3 < (x3_3.length : Int)
                        · rw [if_pos c16] at H
                          have c16b0 : decide (x7_3 < (x3_3.length : Int)) = true := decide_eq_true c16
                          clear c16
                          by_cases c17 : (rd x3_3 x7_3) = 1
                          · rw [if_pos c17] at H
                            have c17b0 : ((rd x3_3 x7_3) == 1) = true := beq_iff_eq.mpr c17
                            have c17b1 : ((rd x3_3 x7_3) != 1) = false := bne_eq_false_iff_eq.mpr c17
                            clear c17
                            have H' := Aside0.mk H
                            clear H
                            obtain ⟨Ao18, co18, eo18⟩ := Kd.R_slice HO_3.out
                            subst eo18
                            have p165 : 0 ≤ (x7_3 : Int) := of_decide_eq_true (by first | (with_reducible assumption) | assumption)
                            have q165 : x7_3 < (x3_3.length : Int) := of_decide_eq_true (by first | (with_reducible assumption) | assumption)
                            obtain ⟨ad165, e165, hx165_0⟩ := Kd.at_int (Kd.R_reads' HO_3.out).2.2 x7_3 p165 q165
                            cases e165
                            replace p165 := eq_true p165
                            replace q165 := eq_true q165
                            go_wp2
                            go_loopg [8] k3 (fun kq v8 w' => ∃ (x3_4 : List Int) (x8_4 : Int), v8 = .int .i64 x8_4 ∧ Aside0 (spec_Crc15.l3 kq x3_4 (⟨#[49, 49, 48, 48, 48, 49, 48, 49, 49, 48, 48, 49, 49, 48, 48, 49]⟩ : ByteArray) x7_3 x8_4 = some r) ∧ Aside0 (kq ≤ k3) ∧ Aside0 (Kd.R (Kd.int .u8) 5 w' w.heap.size (fun _ => True) (.slice (some ad165) x3_3.length co18) x3_4) ∧ Aside0 (Below w.heap.size w w'))
                            case atStart => exact ⟨(x3_3), (0), (by first | rfl | (simp; done) | (simp [*]; done)), H', ⟨Nat.le_refl _⟩, ⟨by (with_reducible repeat (first | apply Kd.R_alloc | apply Kd.R_drewN | apply Kd.R_drew)); exact HO_3.out⟩, ⟨by repeat (first | (with_reducible first | exact HB.out | apply below_alloc | apply pw_below_drewN | apply below_drew1) | exact HB.out)⟩⟩
                            case round =>
                              clear H'
                              try clear c1
                              try clear p1
                              try clear q1
                              try clear hx1
                              try clear p2
                              try clear c3
                              try clear c6
                              try clear c6b0
                              try clear p6
                              try clear c7
                              try clear c7b0
                              try clear p8
                              try clear q8
                              try clear hx8
                              try clear c9
                              try clear c10
                              try clear c11
                              try clear c11b0
                              try clear c12
                              try clear c14
                              try clear c14b0
                              try clear c15
                              try clear c15b0
                              try clear c16
                              try clear c16b0
                              try clear p16
                              try clear q16
                              try clear hx16
                              try clear c17
                              try clear c17b0
                              try clear c17b1
                              try clear hx165_0
                              try clear p165
                              try clear p2
                              try clear p6
                              try clear p8
                              try clear q165
                              try clear q8
                              obtain ⟨x3_4, x8_4, rfl, HA, HK4, HO_3, HB⟩ := hrel
                              have hl3_4 := (Kd.R_reads' HO_3.out).1
                              rw [hl3_4] at HO_3
                              (try simp only [hl3_4])
                              cases gk with
                              | zero => exact absurd HA.out (by simp [spec_Crc15.l3])
                              | succ k4 =>
                                have H := HA.out
                                clear HA
                                simp only [spec_Crc15.l3] at H
                                by_cases c19 : x8_4 < 16
                                · rw [if_pos c19] at H
                                  have c19b0 : decide (x8_4 < 16) = true := decide_eq_true c19
                                  clear c19
                                  obtain ⟨ji20, hji20⟩ : ∃ j_ : Int, (wrap64 (x7_3 + x8_4)) = j_ := ⟨_, rfl⟩
                                  replace H : (if 0 ≤ (ji20) then (if (ji20) < (x3_4.length : Int) then (if 0 ≤ x8_4 then (if x8_4 < ((⟨#[49, 49, 48, 48, 48, 49, 48, 49, 49, 48, 48, 49, 49, 48, 48, 49]⟩ : ByteArray).size : Int) then (spec_Crc15.l3 k4 (x3_4.set ((ji20) : Int).toNat (Go.bits .xor .u8 (rd x3_4 (ji20)) (((bt (⟨#[49, 49, 48, 48, 48, 49, 48, 49, 49, 48, 48, 49, 49, 48, 48, 49]⟩ : ByteArray) x8_4) - 48) % 256))) (⟨#[49, 49, 48, 48, 48, 49, 48, 49, 49, 48, 48, 49, 49, 48, 48, 49]⟩ : ByteArray) x7_3 (wrap64 (x8_4 + 1))) else (none)) else (none)) else (none)) else (none)) = some r := by first | (rw [hji20] at H; exact H) | (simp only [hji20] at H ⊢; exact H)
                                  have hji20w : (IntKind.i64.wrap (x7_3 + x8_4)) = ji20 := (i64_w _).trans hji20
                                  by_cases c21 : 0 ≤ (ji20)
                                  · rw [if_pos c21] at H
                                    have c21b0 : decide (0 ≤ (ji20)) = true := decide_eq_true c21
                                    clear c21
                                    by_cases c22 : (ji20) < (x3_4.length : Int)
                                    · rw [if_pos c22] at H
                                      have c22b0 : decide ((ji20) < (x3_4.length : Int)) = true := decide_eq_true c22
                                      clear c22
                                      by_cases c23 : 0 ≤ x8_4
                                      · rw [if_pos c23] at H
                                        have c23b0 : decide (0 ≤ x8_4) = true := decide_eq_true c23
                                        clear c23
                                        by_cases c24 : x8_4 < ((⟨#[49, 49, 48, 48, 48, 49, 48, 49, 49, 48, 48, 49, 49, 48, 48, 49]⟩ : ByteArray).size : Int)
                                        · rw [if_pos c24] at H
                                          have c24b0 : decide (x8_4 < ((⟨#[49, 49, 48, 48, 48, 49, 48, 49, 49, 48, 48, 49, 49, 48, 48, 49]⟩ : ByteArray).size : Int)) = true := decide_eq_true c24
                                          clear c24
                                          obtain ⟨y167, hy167⟩ : ∃ y_ : List Int, y_ = (x3_4.set ((ji20) : Int).toNat (Go.bits .xor .u8 (rd x3_4 (ji20)) (((bt (⟨#[49, 49, 48, 48, 48, 49, 48, 49, 49, 48, 48, 49, 49, 48, 48, 49]⟩ : ByteArray) x8_4) - 48) % 256))) := ⟨_, rfl⟩
                                          replace H : (spec_Crc15.l3 k4 y167 (⟨#[49, 49, 48, 48, 48, 49, 48, 49, 49, 48, 48, 49, 49, 48, 48, 49]⟩ : ByteArray) x7_3 (wrap64 (x8_4 + 1))) = some r := by first | (rw [hy167]; with_reducible exact H) | (have H2_ := (Option.bind_some _ _).symm.trans H; rw [hy167]; with_reducible exact H2_) | (have H2_ := (Option.bind_some _ _).symm.trans H; with_reducible exact H2_) | with_reducible exact H | (rw [hy167]; exact H) | exact H
                                          have Ny167 := Aside0.mk hy167
                                          clear hy167
                                          have H' := Aside0.mk H
                                          clear H
                                          try go_wp2
                                          have n0_ := Aside0.mk (Kd.R_drew HO_3.out)
                                          have n1_ := Aside0.mk (below_drew1 HB.out)
                                          clear HO_3
                                          clear HB
                                          have HO_3 := n0_
                                          have HB := n1_
                                          clear n0_ n1_
                                          have p166 : 0 ≤ ((ji20) : Int) := of_decide_eq_true (by first | (with_reducible assumption) | assumption)
                                          have q166 : (ji20) < (x3_4.length : Int) := of_decide_eq_true (by first | (with_reducible assumption) | assumption)
                                          obtain ⟨ad166, e166, hx166_0⟩ := Kd.at_int (Kd.R_reads' HO_3.out).2.2 (ji20) p166 q166
                                          obtain rfl : ad165 = ad166 := (by injection e166)
                                          replace p166 := eq_true p166
                                          replace q166 := eq_true q166
                                          have p25 : 0 ≤ (x8_4 : Int) := of_decide_eq_true (by first | (with_reducible assumption) | assumption)
                                          have q25 : x8_4 < (16 : Int) := of_decide_eq_true (by first | (with_reducible assumption) | assumption)
                                          have hx25 := bt_at (⟨#[49, 49, 48, 48, 48, 49, 48, 49, 49, 48, 48, 49, 49, 48, 48, 49]⟩ : ByteArray) x8_4
                                          replace p25 := eq_true p25
                                          replace q25 := eq_true q25
                                          have p26 : 0 ≤ ((ji20) : Int) := of_decide_eq_true (by first | (with_reducible assumption) | assumption)
                                          have q26 : ((ji20) : Int) < ((x3_4.length : Int) : Int) := of_decide_eq_true (by first | (with_reducible assumption) | assumption)
                                          obtain ⟨go26, co26, eo26, gb26, gl26, cl26, HG26⟩ := Kd.R_form HO_3.out (by omega)
                                          (first | cases eo26 | (injection eo26 with ea_ en_ ec_; (first | subst ea_ | (injection ea_ with ea_; subst ea_)); subst ec_; clear en_))
                                          have GB26 := Aside0.mk gb26
                                          have GG26 := Aside0.mk HG26
                                          clear gb26 gl26 HG26
                                          (first | simp only [add_plain] at hx165_0 | skip)
                                          (first | simp only [add_plain] at hx166_0 | skip)
                                          obtain ⟨hx26_0, hf26_0⟩ := Kd.R_celln 0 HO_3.out ((ji20) : Int) p26 q26
                                          replace p26 := eq_true p26
                                          replace q26 := eq_true q26
                                          have HP28 := Kd.R_putn HO_3.out ((ji20) : Int) (Go.bits .xor .u8 (rd x3_4 (ji20)) (((bt (⟨#[49, 49, 48, 48, 48, 49, 48, 49, 49, 48, 48, 49, 49, 48, 48, 49]⟩ : ByteArray) x8_4) - 48) % 256))
                                          rw [← Ny167.out] at HP28
                                          have HQ28 := Aside0.mk HP28
                                          clear HP28
                                          refine start_ (n := 17) (S := fun w' => w'.cell? ⟨go26, ((ji20)).toNat, none⟩ = some (.int .u8 (rd x3_4 (ji20)))) (ds := [16]) #[false, false, false, false, false, false, false, false, false, false, false, false, false, false, false, false, false] (by kernel_rfl) rfl rfl (hx166_0) (fun hHeld => ?_); refine with_tabW spec_Crc15.tab20 spec_Crc15.bits20 (fun HT_ HW_ => ?_)
                                          generalize wr.drew = w27 at HO_3 HB GG26 HQ28 hf26_0 hx166_0 hx26_0 hHeld ⊢
                                          refine pure_ (i := 0) (N := some 51) (v := ?_) (a' := ?_) #[true, false, false, false, false, false, false, false, false, false, false, false, false, false, false, false, false] rfl rfl (any_of HT_.out (by kernel_rfl)) (fun _ _ _ h => h) (Or.inl ⟨by rfl, ?_⟩) ?_ ?_
                                          rotate_left
                                          · intro w'
                                            go_simp
                                            with_reducible rfl
                                          rotate_left
                                          · simp only [Act.put, List.setIfInBounds_toArray, List.set_cons_zero, List.set_cons_succ, i64_w, i32_w]
                                            rfl
                                          refine pure_ (i := 1) (N := some 52) (v := ?_) (a' := ?_) #[true, true, false, false, false, false, false, false, false, false, false, false, false, false, false, false, false] rfl rfl (any_of HT_.out (by kernel_rfl)) (fun _ _ _ h => h) (Or.inl ⟨by rfl, ?_⟩) ?_ ?_
                                          rotate_left
                                          · intro w'
                                            go_simp
                                            with_reducible rfl
                                          rotate_left
                                          · simp only [Act.put, List.setIfInBounds_toArray, List.set_cons_zero, List.set_cons_succ, i64_w, i32_w]
                                            rfl
                                          refine pure_ (i := 2) (N := some 53) (v := ?_) (a' := ?_) #[true, true, true, false, false, false, false, false, false, false, false, false, false, false, false, false, false] rfl rfl (any_of HT_.out (by kernel_rfl)) (fun _ _ _ h => h) (Or.inl ⟨by rfl, ?_⟩) ?_ ?_
                                          rotate_left
                                          · intro w'
                                            go_simp
                                            with_reducible rfl
                                          rotate_left
                                          · simp only [Act.put, List.setIfInBounds_toArray, List.set_cons_zero, List.set_cons_succ, i64_w, i32_w]
                                            rfl
                                          refine pure_ (i := 3) (N := some 54) (v := ?_) (a' := ?_) #[true, true, true, true, false, false, false, false, false, false, false, false, false, false, false, false, false] rfl rfl (any_of HT_.out (by kernel_rfl)) (fun _ _ _ h => h) (Or.inl ⟨by rfl, ?_⟩) ?_ ?_
                                          rotate_left
                                          · intro w'
                                            go_simp
                                            with_reducible rfl
                                          rotate_left
                                          · simp only [Act.put, List.setIfInBounds_toArray, List.set_cons_zero, List.set_cons_succ, i64_w, i32_w]
                                            rfl
                                          refine pure_ (i := 4) (N := some 55) (v := ?_) (a' := ?_) #[true, true, true, true, true, false, false, false, false, false, false, false, false, false, false, false, false] rfl rfl (any_of HT_.out (by kernel_rfl)) (fun _ _ _ h => h) (Or.inl ⟨by rfl, ?_⟩) ?_ ?_
                                          rotate_left
                                          · intro w'
                                            go_simp
                                            with_reducible rfl
                                          rotate_left
                                          · simp only [Act.put, List.setIfInBounds_toArray, List.set_cons_zero, List.set_cons_succ, i64_w, i32_w]
                                            rfl
                                          refine pure_ (i := 5) (N := some 56) (v := ?_) (a' := ?_) #[true, true, true, true, true, true, false, false, false, false, false, false, false, false, false, false, false] rfl rfl (any_of HT_.out (by kernel_rfl)) (fun _ _ _ h => h) (Or.inl ⟨by rfl, ?_⟩) ?_ ?_
                                          rotate_left
                                          · intro w'
                                            go_simp
                                            with_reducible rfl
                                          rotate_left
                                          · simp only [Act.put, List.setIfInBounds_toArray, List.set_cons_zero, List.set_cons_succ, i64_w, i32_w]
                                            rfl
                                          refine pure_ (i := 6) (N := some 57) (v := ?_) (a' := ?_) #[true, true, true, true, true, true, true, false, false, false, false, false, false, false, false, false, false] rfl rfl (any_of HT_.out (by kernel_rfl)) (fun _ _ _ h => h) (Or.inl ⟨by rfl, ?_⟩) ?_ ?_
                                          rotate_left
                                          · intro w'
                                            go_simp
                                            with_reducible rfl
                                          rotate_left
                                          · simp only [Act.put, List.setIfInBounds_toArray, List.set_cons_zero, List.set_cons_succ, i64_w, i32_w]
                                            rfl
                                          refine pure_ (i := 7) (N := some 58) (v := ?_) (a' := ?_) #[true, true, true, true, true, true, true, true, false, false, false, false, false, false, false, false, false] rfl rfl (any_of HT_.out (by kernel_rfl)) (fun _ _ _ h => h) (Or.inl ⟨by rfl, ?_⟩) ?_ ?_
                                          rotate_left
                                          · intro w'
                                            go_simp
                                            with_reducible rfl
                                          rotate_left
                                          · simp only [Act.put, List.setIfInBounds_toArray, List.set_cons_zero, List.set_cons_succ, i64_w, i32_w]
                                            rfl
                                          refine pure_ (i := 8) (N := some 59) (v := ?_) (a' := ?_) #[true, true, true, true, true, true, true, true, true, false, false, false, false, false, false, false, false] rfl rfl (any_of HT_.out (by kernel_rfl)) (fun _ _ _ h => h) (Or.inl ⟨by rfl, ?_⟩) ?_ ?_
                                          rotate_left
                                          · intro w'
                                            go_simp
                                            with_reducible rfl
                                          rotate_left
                                          · simp only [Act.put, List.setIfInBounds_toArray, List.set_cons_zero, List.set_cons_succ, i64_w, i32_w]
                                            rfl
                                          refine pure_ (i := 10) (N := some 61) (v := ?_) (a' := ?_) #[true, true, true, true, true, true, true, true, true, false, true, false, false, false, false, false, false] rfl rfl (any_of HT_.out (by kernel_rfl)) (fun _ _ _ h => h) (Or.inl ⟨by rfl, ?_⟩) ?_ ?_
                                          rotate_left
                                          · intro w'
                                            go_simp
                                            with_reducible rfl
                                          rotate_left
                                          · simp only [Act.put, List.setIfInBounds_toArray, List.set_cons_zero, List.set_cons_succ, i64_w, i32_w]
                                            rfl
                                          refine pure_ (i := 11) (N := some 62) (v := ?_) (a' := ?_) #[true, true, true, true, true, true, true, true, true, false, true, true, false, false, false, false, false] rfl rfl (any_of HT_.out (by kernel_rfl)) (fun _ _ _ h => h) (Or.inl ⟨by rfl, ?_⟩) ?_ ?_
                                          rotate_left
                                          · intro w'
                                            go_simp
                                            with_reducible rfl
                                          rotate_left
                                          · simp only [Act.put, List.setIfInBounds_toArray, List.set_cons_zero, List.set_cons_succ, i64_w, i32_w]
                                            rfl
                                          refine take_ (i := 9) (N := some 60) (v := ?_) (a' := ?_) #[true, true, true, true, true, true, true, true, true, true, true, true, false, false, false, false, false] rfl rfl (take_ofW HT_.out HW_.out (by kernel_rfl)) (fun _ _ _ h => h) (Or.inl ⟨by rfl, ?_⟩) hHeld ?_ ?_
                                          rotate_left
                                          · intro w' s0
                                            go_simp
                                            with_reducible rfl
                                          rotate_left
                                          · simp only [Act.put, List.setIfInBounds_toArray, List.set_cons_zero, List.set_cons_succ, i64_w, i32_w]
                                            rfl
                                          refine take_ (i := 12) (N := some 63) (v := ?_) (a' := ?_) #[true, true, true, true, true, true, true, true, true, true, true, true, true, false, false, false, false] rfl rfl (take_ofW HT_.out HW_.out (by kernel_rfl)) (fun _ _ _ h => h) (Or.inl ⟨by rfl, ?_⟩) hHeld ?_ ?_
                                          rotate_left
                                          · intro w' s0
                                            go_simp
                                            with_reducible rfl
                                          rotate_left
                                          · simp only [Act.put, List.setIfInBounds_toArray, List.set_cons_zero, List.set_cons_succ, i64_w, i32_w]
                                            rfl
                                          refine pure_ (i := 13) (N := some 64) (v := ?_) (a' := ?_) #[true, true, true, true, true, true, true, true, true, true, true, true, true, true, false, false, false] rfl rfl (any_of HT_.out (by kernel_rfl)) (fun _ _ _ h => h) (Or.inl ⟨by rfl, ?_⟩) ?_ ?_
                                          rotate_left
                                          · intro w'
                                            go_simp
                                            with_reducible rfl
                                          rotate_left
                                          · simp only [Act.put, List.setIfInBounds_toArray, List.set_cons_zero, List.set_cons_succ, i64_w, i32_w]
                                            rfl
                                          refine pure_ (i := 14) (N := some 65) (v := ?_) (a' := ?_) #[true, true, true, true, true, true, true, true, true, true, true, true, true, true, true, false, false] rfl rfl (any_of HT_.out (by kernel_rfl)) (fun _ _ _ h => h) (Or.inl ⟨by rfl, ?_⟩) ?_ ?_
                                          rotate_left
                                          · intro w'
                                            go_simp
                                            with_reducible rfl
                                          rotate_left
                                          · simp only [Act.put, List.setIfInBounds_toArray, List.set_cons_zero, List.set_cons_succ, i64_w, i32_w]
                                            rfl
                                          refine pure_ (i := 15) (N := some 66) (v := ?_) (a' := ?_) #[true, true, true, true, true, true, true, true, true, true, true, true, true, true, true, true, false] rfl rfl (any_of HT_.out (by kernel_rfl)) (fun _ _ _ h => h) (Or.inl ⟨by rfl, ?_⟩) ?_ ?_
                                          rotate_left
                                          · intro w'
                                            go_simp
                                            with_reducible rfl
                                          rotate_left
                                          · simp only [Act.put, List.setIfInBounds_toArray, List.set_cons_zero, List.set_cons_succ, i64_w, i32_w]
                                            rfl
                                          refine last_ (i := 16) (N := none) #[true, true, true, true, true, true, true, true, true, true, true, true, true, true, true, true, true] rfl rfl (one_of HT_.out (by kernel_rfl)) (by decide) (fun K hK => ?_)
                                          refine skip_ (w1 := ?_) (by rfl) rfl ?_ ?_
                                          rotate_left
                                          · go_simp
                                            rfl
                                          refine hK.out _ _ ?_
                                          clear hK K
                                          refine done_ (done_of HT_.out (by kernel_rfl)) ?_
                                          try go_wp2
                                          (try simp only [← hl3_4]); (try simp only [← add_plain go26 x7_3.toNat])
                                          go_roundg k4
                                          case measure => have := HK1.out; have := HK2.out; have := HK3.out; have := HK4.out; omega
                                          case rel => exact ⟨(y167), (wrap64 (x8_4 + 1)), (by first | rfl | (simp; done) | (simp [*]; done)), H', ⟨by have := HK1.out; have := HK2.out; have := HK3.out; have := HK4.out; omega⟩, ⟨by (try simp only [hl3_4]); (with_reducible repeat (first | apply Kd.R_alloc | apply Kd.R_drewN | apply Kd.R_drew)); exact HQ28.out⟩, ⟨by repeat (first | (with_reducible first | exact HB.out | apply below_alloc | apply pw_below_drewN | apply below_drew1 | refine below_set ?_ GB26.out) | exact HB.out)⟩⟩
                                        · rw [if_neg c24] at H
                                          exact absurd H (by simp)
                                      · rw [if_neg c23] at H
                                        exact absurd H (by simp)
                                    · rw [if_neg c22] at H
                                      exact absurd H (by simp)
                                  · rw [if_neg c21] at H
                                    exact absurd H (by simp)
                                · rw [if_neg c19] at H
                                  have c19b0 : decide (x8_4 < 16) = false := decide_eq_false c19
                                  clear c19
                                  have H' := Aside0.mk H
                                  clear H
                                  go_wp2
                                  (try simp only [← hl3_4]); (try simp only [← add_plain go26 x7_3.toNat])
                                  go_roundg k4
                                  case measure => have := HK1.out; have := HK2.out; have := HK3.out; have := HK4.out; omega
                                  case rel => exact ⟨(x3_4), (wrap64 (x7_3 + 1)), (by first | rfl | (simp; done) | (simp [*]; done)), H', ⟨by have := HK1.out; have := HK2.out; have := HK3.out; have := HK4.out; omega⟩, ⟨by (try simp only [hl3_4]); (with_reducible repeat (first | apply Kd.R_alloc | apply Kd.R_drewN | apply Kd.R_drew)); exact HO_3.out⟩, ⟨by repeat (first | (with_reducible first | exact HB.out | apply below_alloc | apply pw_below_drewN | apply below_drew1) | exact HB.out)⟩⟩
                          · rw [if_neg c17] at H
                            have c17b0 : ((rd x3_3 x7_3) == 1) = false := beq_eq_false_iff_ne.mpr c17
                            have c17b1 : ((rd x3_3 x7_3) != 1) = true := bne_iff_ne.mpr c17
                            have H' := Aside0.mk H
                            clear H
                            obtain ⟨Ao29, co29, eo29⟩ := Kd.R_slice HO_3.out
                            subst eo29
                            have p165 : 0 ≤ (x7_3 : Int) := of_decide_eq_true (by first | (with_reducible assumption) | assumption)
                            have q165 : x7_3 < (x3_3.length : Int) := of_decide_eq_true (by first | (with_reducible assumption) | assumption)
                            obtain ⟨ad165, e165, hx165_0⟩ := Kd.at_int (Kd.R_reads' HO_3.out).2.2 x7_3 p165 q165
                            cases e165
                            replace p165 := eq_true p165
                            replace q165 := eq_true q165
                            go_wp2
                            go_roundg k3
                            case measure => have := HK1.out; have := HK2.out; have := HK3.out; omega
                            case rel => exact ⟨(x3_3), (wrap64 (x7_3 + 1)), (by first | rfl | (simp; done) | (simp [*]; done)), H', ⟨by have := HK1.out; have := HK2.out; have := HK3.out; omega⟩, ⟨by (with_reducible repeat (first | apply Kd.R_alloc | apply Kd.R_drewN | apply Kd.R_drew)); exact HO_3.out⟩, ⟨by repeat (first | (with_reducible first | exact HB.out | apply below_alloc | apply pw_below_drewN | apply below_drew1) | exact HB.out)⟩⟩
                        · rw [if_neg c16] at H
                          exact absurd H (by simp)
                      · rw [if_neg c15] at H
                        exact absurd H (by simp)
                    · rw [if_neg c14] at H
                      have c14b0 : decide ((wrap64 (x7_3 + 15)) < (x3_3.length : Int)) = false := decide_eq_false c14
                      clear c14
                      have H' := Aside0.mk H
                      clear H
                      obtain ⟨Ao30, co30, eo30⟩ := Kd.R_slice HO_3.out
                      subst eo30
                      go_wp2
                      go_loopg [9, 10] k3 (fun kq v9 v10 w' => ∃ (x9_4 : Int) (x10_4 : Int), v9 = .int .i64 x9_4 ∧ v10 = .int .i64 x10_4 ∧ Aside0 (spec_Crc15.l4 kq x3_3 x9_4 x10_4 = some r) ∧ Aside0 (kq ≤ k3) ∧ Aside0 (Kd.R (Kd.int .u8) 5 w' w.heap.size (fun _ => True) (.slice Ao30 x3_3.length co30) x3_3) ∧ Aside0 (Below w.heap.size w w'))
                      case atStart => exact ⟨(0), (wrap64 ((x3_3.length : Int) - 15)), (by first | rfl | (simp; done) | (simp [*]; done)), (by first | rfl | (simp; done) | (simp [*]; done)), H', ⟨Nat.le_refl _⟩, ⟨by (with_reducible repeat (first | apply Kd.R_alloc | apply Kd.R_drewN | apply Kd.R_drew)); exact HO_3.out⟩, ⟨by repeat (first | (with_reducible first | exact HB.out | apply below_alloc | apply pw_below_drewN | apply below_drew1) | exact HB.out)⟩⟩
                      case round =>
                        clear H'
                        try clear c1
                        try clear p1
                        try clear q1
                        try clear hx1
                        try clear c2
                        try clear p2
                        try clear q2
                        try clear hx2
                        try clear hf2
                        try clear c3
                        try clear c6
                        try clear c6b0
                        try clear p6
                        try clear c7
                        try clear c7b0
                        try clear p8
                        try clear q8
                        try clear hx8
                        try clear c9
                        try clear c10
                        try clear c11
                        try clear c11b0
                        try clear c12
                        try clear c14
                        try clear c14b0
                        try clear c15
                        try clear c15b0
                        try clear c16
                        try clear c16b0
                        try clear p16
                        try clear q16
                        try clear hx16
                        try clear c17
                        try clear c17b0
                        try clear c17b1
                        try clear c19
                        try clear c19b0
                        try clear c21
                        try clear c21b0
                        try clear c22
                        try clear c22b0
                        try clear c23
                        try clear c23b0
                        try clear c24
                        try clear c24b0
                        try clear p25
                        try clear q25
                        try clear hx25
                        try clear p26
                        try clear q26
                        try clear hx26
                        try clear hf26
                        try clear hx165_0
                        try clear hx166_0
                        try clear hx26_0
                        try clear p1
                        try clear p16
                        try clear p165
                        try clear p166
                        try clear p2
                        try clear p25
                        try clear p26
                        try clear p6
                        try clear p8
                        try clear q1
                        try clear q16
                        try clear q165
                        try clear q166
                        try clear q25
                        try clear q26
                        try clear q8
                        obtain ⟨x9_4, x10_4, rfl, rfl, HA, HK4, HO_3, HB⟩ := hrel
                        cases gk with
                        | zero => exact absurd HA.out (by simp [spec_Crc15.l4])
                        | succ k4 =>
                          have H := HA.out
                          clear HA
                          simp only [spec_Crc15.l4] at H
                          by_cases c31 : x10_4 < (x3_3.length : Int)
                          · rw [if_pos c31] at H
                            have c31b0 : decide (x10_4 < (x3_3.length : Int)) = true := decide_eq_true c31
                            clear c31
                            by_cases c32 : 0 ≤ x10_4
                            · rw [if_pos c32] at H
                              have c32b0 : decide (0 ≤ x10_4) = true := decide_eq_true c32
                              clear c32
                              have H' := Aside0.mk H
                              clear H
                              have p168 : 0 ≤ (x10_4 : Int) := of_decide_eq_true (by first | (with_reducible assumption) | assumption)
                              have q168 : x10_4 < (x3_3.length : Int) := of_decide_eq_true (by first | (with_reducible assumption) | assumption)
                              obtain ⟨ad168, e168, hx168_0⟩ := Kd.at_int (Kd.R_reads' HO_3.out).2.2 x10_4 p168 q168
                              cases e168
                              replace p168 := eq_true p168
                              replace q168 := eq_true q168
                              go_wp2
                              go_roundg k4
                              case measure => have := HK1.out; have := HK2.out; have := HK3.out; have := HK4.out; omega
                              case rel => exact ⟨(wrap64 ((wrap64 (2 * x9_4)) + (wrap64 (rd x3_3 x10_4)))), (wrap64 (x10_4 + 1)), (by first | rfl | (simp; done) | (simp [*]; done)), (by first | rfl | (simp; done) | (simp [*]; done)), H', ⟨by have := HK1.out; have := HK2.out; have := HK3.out; have := HK4.out; omega⟩, ⟨by (with_reducible repeat (first | apply Kd.R_alloc | apply Kd.R_drewN | apply Kd.R_drew)); exact HO_3.out⟩, ⟨by repeat (first | (with_reducible first | exact HB.out | apply below_alloc | apply pw_below_drewN | apply below_drew1) | exact HB.out)⟩⟩
                            · rw [if_neg c32] at H
                              exact absurd H (by simp)
                          · rw [if_neg c31] at H
                            have c31b0 : decide (x10_4 < (x3_3.length : Int)) = false := decide_eq_false c31
                            clear c31
                            obtain rfl := Option.some.inj H
                            go_wp2
                            go_ret
                            exact ⟨by first | rfl | (simp [errW_none, errW_some] <;> rfl) | (simp [*, errW_none, errW_some] <;> rfl), by repeat (first | (with_reducible first | exact HB.out | apply below_alloc | apply pw_below_drewN | apply below_drew1) | exact HB.out)⟩
  · replace c3 := Bool.eq_false_iff.mpr c3
    subst c3
    have H1 : (some (-1)) = some r := by rw [if_neg (show ¬ (false = true) by decide)] at H; exact H
    clear H
    have H := H1
    clear H1
    obtain rfl := Option.some.inj H
    go_enter Try.func107, Try.ntmps107
    go_wp2_with (first | ((with_reducible refine gate_callee (f := 128) rfl ?_); refine goesL_ (some 12) rfl rfl Try.func128 (by kernel_rfl) rfl #[.string a0, .int .i64 2000] rfl (by (try simp only [List.map_toArray, List.map_cons, List.map_nil]); first | done | rfl | (simp only [List.length_drop, List.length_take]; rfl)) ?_; (with_reducible refine (spec_l1okBits.calls k a0 2000 false _ A2.out).mono ?_); rintro e w' ⟨rfl, ⟨nd, rfl⟩⟩; refine ⟨_, rfl, ?_⟩))
    go_ret
    exact ⟨by first | rfl | (simp [errW_none, errW_some] <;> rfl) | (simp [*, errW_none, errW_some] <;> rfl), by repeat (first | (with_reducible first | exact HB.out | apply below_alloc | apply pw_below_drewN | apply below_drew1) | exact HB.out)⟩
end Go.Proofs.Ytdoclpgciadjaaa.P

namespace Go.Proofs.Ytdoclpgciadjaaa.P
open Go Go.RowKit Go.Proofs.YtdoclpgciadjaaaW.PrintWords
set_option linter.unusedVariables false
theorem b2_xor (a b : Bool) : bits .xor .u8 (b2 a) (b2 b) = b2 (a ^^ b) := by cases a <;> cases b <;> decide
theorem gtext (j : Nat) (h : j < 16) : (bt (⟨#[49, 49, 48, 48, 48, 49, 48, 49, 49, 48, 48, 49, 49, 48, 48, 49]⟩ : ByteArray) (j : Int) - 48) % 256 = b2 (Nat.testBit 50585 (15 - j)) := by
  have : ∀ j : Fin 16, (bt (⟨#[49, 49, 48, 48, 48, 49, 48, 49, 49, 48, 48, 49, 49, 48, 48, 49]⟩ : ByteArray) ((j.val : Nat) : Int) - 48) % 256 = b2 (Nat.testBit 50585 (15 - j.val)) := by decide +kernel
  exact this ⟨j, h⟩
def phi (s : ByteArray) (i t : Nat) : Bool := (decide (t < i + 15) && (crcL ((bytesOf s).take i)).testBit (14 - (t - i))) ^^ (decide (t < s.size) && bitB (bt s (t : Int)))
def Holds (v : List Int) (n : Nat) (from_ : Nat) (φ : Nat → Bool) : Prop := v.length = n ∧ ∀ t, from_ ≤ t → t < n → rd v (t : Int) = b2 (φ t)
set_option linter.unusedSectionVars false
section
variable (s : ByteArray) (hs : s.size ≤ 2000) (hb : isBits s = true)
include hs hb
omit hs in
theorem bit_at (t : Nat) (ht : t < s.size) : bt s (t : Int) = 48 ∨ bt s (t : Int) = 49 := by
  rw [bt_eq s t ht]
  rcases isBit_cases (isBits_at hb ht) with e | e <;> rw [e]
  · exact .inl rfl
  · exact .inr rfl
omit hs hb in
theorem phi_step (i t : Nat) (hi : i < s.size) (ht : i + 1 ≤ t) (ht2 : t < s.size + 15) :
    phi s (i + 1) t = (phi s i t ^^ (phi s i i && decide (t < i + 16) && Nat.testBit 50585 (15 - (t - i)))) := by
  have hl : i < (bytesOf s).length := by rw [bytesOf_length]; exact hi
  have h1 : crcL ((bytesOf s).take (i + 1)) = crcN (crcL ((bytesOf s).take i)) (bitN (bt s (i : Int))) := by
    rw [List.take_succ_eq_append_getElem hl, crcL_snoc, bytesOf_get]
  have hb1 : bitN (bt s (i : Int)) ≤ 1 := by unfold bitN; split <;> omega
  have hbd : decide (bitN (bt s (i : Int)) = 1) = bitB (bt s (i : Int)) := by unfold bitN bitB; split <;> simp [*]
  unfold phi
  rw [h1]
  have hR : crcL ((bytesOf s).take i) < 32768 := crcL_lt _
  generalize crcL ((bytesOf s).take i) = R at *
  rw [decide_eq_true (show i < i + 15 by omega), decide_eq_true hi, Nat.sub_self, Bool.true_and, Bool.true_and]
  by_cases h : t < i + 16
  · obtain ⟨j, hj, hj15⟩ : ∃ j, t = i + 15 - j ∧ j < 15 := ⟨i + 15 - t, by omega, by omega⟩
    subst hj
    rw [show 14 - (i + 15 - j - (i + 1)) = j by omega, crcN_testBit R _ hR hb1 j hj15, hbd, show 15 - (i + 15 - j - i) = j by omega, decide_eq_true (show i + 15 - j < i + 1 + 15 by omega)]
    have hg : Nat.testBit 50585 j = Nat.testBit 17817 j := by
      have : ∀ j : Fin 15, Nat.testBit 50585 j.val = Nat.testBit 17817 j.val := by decide
      exact this ⟨j, hj15⟩
    rw [hg]
    by_cases h0 : 0 < j
    · rw [decide_eq_true h0, decide_eq_true (show i + 15 - j < i + 15 by omega), show 14 - (i + 15 - j - i) = j - 1 by omega]
      simp only [Bool.true_and, Bool.and_true]
      cases R.testBit (j - 1) <;> cases R.testBit 14 <;> cases bitB (bt s (i : Int)) <;> cases Nat.testBit 17817 j <;> simp
    · rw [decide_eq_false h0, decide_eq_false (show ¬ i + 15 - j < i + 15 by omega)]
      simp only [Bool.true_and, Bool.and_true, Bool.false_and]
      cases R.testBit 14 <;> cases bitB (bt s (i : Int)) <;> cases Nat.testBit 17817 j <;> simp
  · rw [decide_eq_false (show ¬ t < i + 1 + 15 by omega), decide_eq_false (show ¬ t < i + 15 by omega)]
    simp
theorem l4_ev (v : List Int) (R : Nat) (hR : R < 32768) (hv : Holds v (s.size + 15) s.size (fun t => R.testBit (14 - (t - s.size)))) :
    ∀ (d j : Nat), j + d = 15 → Ev (fun k => spec_Crc15.l4 k v ((R >>> (15 - j) : Nat) : Int) ((s.size + j : Nat) : Int)) (R : Int) := by
  obtain ⟨hl, hv⟩ := hv
  intro d
  induction d with
  | zero =>
    intro j hj
    refine Ev.step (f := fun _ => some (R : Int)) (fun k => ?_) (Ev.now _)
    simp only [spec_Crc15.l4]
    rw [if_neg (by omega), show 15 - j = 0 by omega, Nat.shiftRight_zero]
  | succ d ih =>
    intro j hj
    refine Ev.step (f := fun k => spec_Crc15.l4 k v ((R >>> (15 - (j + 1)) : Nat) : Int) ((s.size + (j + 1) : Nat) : Int)) (fun k => ?_) (ih (j + 1) (by omega))
    have hb0 : (R >>> (15 - j)) < 32768 := Nat.lt_of_le_of_lt (Nat.shiftRight_le _ _) hR
    have hx : R >>> (15 - (j + 1)) = 2 * (R >>> (15 - j)) + (R.testBit (14 - j)).toNat := by
      have e : 15 - j = (14 - j) + 1 := by omega
      rw [show 15 - (j + 1) = 14 - j by omega, e, Nat.shiftRight_succ, Nat.testBit_eq_decide_div_mod_eq, Nat.shiftRight_eq_div_pow]
      generalize R / 2 ^ (14 - j) = q
      by_cases h : q % 2 = 1
      · rw [decide_eq_true h]; simp; omega
      · rw [decide_eq_false h]; simp; omega
    have hr : rd v ((s.size + j : Nat) : Int) = (((R.testBit (14 - j)).toNat : Nat) : Int) := by
      rw [hv (s.size + j) (by omega) (by omega)]; dsimp only; rw [show s.size + j - s.size = j by omega]
      unfold b2
      cases R.testBit (14 - j) <;> rfl
    have ht : (R.testBit (14 - j)).toNat ≤ 1 := Bool.toNat_le _
    simp only [spec_Crc15.l4]
    rw [if_pos (by omega), if_pos (by omega), hr, w64 (x := 2 * _) (by omega) (by omega), w64 (x := (((R.testBit (14 - j)).toNat : Nat) : Int)) (by omega) (by omega), w64 (by omega) (by omega), w64 (by omega) (by omega), hx]
    push_cast
    rfl
theorem l3_ev (i : Nat) (hi : i < s.size) (φ : Nat → Bool) (r : Int)
    (next : ∀ v, Holds v (s.size + 15) (i + 1) (fun t => φ t ^^ (decide (t < i + 16) && Nat.testBit 50585 (15 - (t - i)))) → Ev (fun k => spec_Crc15.l2 k v (⟨#[49, 49, 48, 48, 48, 49, 48, 49, 49, 48, 48, 49, 49, 48, 48, 49]⟩ : ByteArray) ((i + 1 : Nat) : Int)) r) :
    ∀ (d j : Nat) (v : List Int), j + d = 16 → Holds v (s.size + 15) i (fun t => φ t ^^ (decide (t < i + j) && Nat.testBit 50585 (15 - (t - i)))) → Ev (fun k => spec_Crc15.l3 k v (⟨#[49, 49, 48, 48, 48, 49, 48, 49, 49, 48, 48, 49, 49, 48, 48, 49]⟩ : ByteArray) (i : Int) (j : Int)) r := by
  intro d
  induction d with
  | zero =>
    intro j v hj hv
    obtain rfl : j = 16 := by omega
    refine Ev.step (f := fun k => spec_Crc15.l2 k v (⟨#[49, 49, 48, 48, 48, 49, 48, 49, 49, 48, 48, 49, 49, 48, 48, 49]⟩ : ByteArray) ((i + 1 : Nat) : Int)) (fun k => ?_) (next v ⟨hv.1, fun t h1 h2 => hv.2 t (by omega) h2⟩)
    simp only [spec_Crc15.l3]
    rw [if_neg (by omega), w64 (by omega) (by omega)]
    rfl
  | succ d ih =>
    intro j v hj hv
    obtain ⟨hl, hv⟩ := hv
    have hg := gtext j (by omega)
    have hx : bits .xor .u8 (rd v ((i + j : Nat) : Int)) (b2 (Nat.testBit 50585 (15 - j))) = b2 (φ (i + j) ^^ Nat.testBit 50585 (15 - j)) := by
      rw [hv (i + j) (by omega) (by omega)]; dsimp only; rw [decide_eq_false (show ¬ i + j < i + j by omega), Bool.false_and, Bool.xor_false, b2_xor]
    refine Ev.step (f := fun k => spec_Crc15.l3 k (v.set (i + j) (b2 (φ (i + j) ^^ Nat.testBit 50585 (15 - j)))) (⟨#[49, 49, 48, 48, 48, 49, 48, 49, 49, 48, 48, 49, 49, 48, 48, 49]⟩ : ByteArray) (i : Int) ((j + 1 : Nat) : Int)) (fun k => ?_) (ih (j + 1) _ (by omega) ⟨by rw [List.length_set]; exact hl, fun t h1 h2 => ?_⟩)
    · simp only [spec_Crc15.l3]
      rw [w64 (x := (i : Int) + (j : Int)) (by omega) (by omega), show (i : Int) + (j : Int) = ((i + j : Nat) : Int) by omega, if_pos (by omega), if_pos (by omega), if_pos (by omega), if_pos (by omega), if_pos (by rw [show (ByteArray.size _ : Nat) = 16 from rfl]; omega), hg, hx, w64 (by omega) (by omega)]
      rfl
    · rw [rd_set v (i + j) _ t (by omega)]
      by_cases e : t = i + j
      · subst e
        rw [if_pos rfl]; dsimp only; rw [decide_eq_true (show i + j < i + (j + 1) by omega), Bool.true_and, show i + j - i = j by omega]
      · rw [if_neg e, hv t h1 h2]
        dsimp only
        rw [show decide (t < i + j) = decide (t < i + (j + 1)) from decide_eq_decide.2 ⟨fun _ => by omega, fun _ => by omega⟩]
theorem l2_ev : ∀ (d i : Nat) (v : List Int), i + d = s.size → Holds v (s.size + 15) i (phi s i) → Ev (fun k => spec_Crc15.l2 k v (⟨#[49, 49, 48, 48, 48, 49, 48, 49, 49, 48, 48, 49, 49, 48, 48, 49]⟩ : ByteArray) (i : Int)) (crcL (bytesOf s) : Int) := by
  intro d
  induction d with
  | zero =>
    intro i v hi hv
    obtain rfl : i = s.size := by omega
    have h4 := l4_ev s hs hb (v := v) (crcL (bytesOf s)) (crcL_lt _) ⟨hv.1, fun t h1 h2 => by
      rw [hv.2 t h1 h2]; unfold phi; dsimp only
      rw [decide_eq_false (show ¬ t < s.size by omega), decide_eq_true (show t < s.size + 15 by omega), List.take_of_length_le (by rw [bytesOf_length]; omega)]; simp⟩ 15 0 (by omega)
    refine Ev.step (f := fun k => spec_Crc15.l4 k v ((crcL (bytesOf s) >>> (15 - 0) : Nat) : Int) ((s.size + 0 : Nat) : Int)) (fun k => ?_) h4
    have hz : crcL (bytesOf s) >>> (15 - 0) = 0 := by rw [Nat.shiftRight_eq_div_pow]; have := crcL_lt (bytesOf s); omega
    have hl := hv.1
    simp only [spec_Crc15.l2]
    rw [w64 (by omega) (by omega), if_neg (by omega), hz, hl, w64 (by omega) (by omega), show ((s.size + 15 : Nat) : Int) - 15 = ((s.size + 0 : Nat) : Int) by omega]
    rfl
  | succ d ih =>
    intro i v hi hv
    have hl := hv.1
    have his : i < s.size := by omega
    have hr : rd v (i : Int) = b2 (phi s i i) := hv.2 i (by omega) (by omega)
    cases hp : phi s i i with
    | true =>
      refine Ev.step (f := fun k => spec_Crc15.l3 k v (⟨#[49, 49, 48, 48, 48, 49, 48, 49, 49, 48, 48, 49, 49, 48, 48, 49]⟩ : ByteArray) (i : Int) ((0 : Nat) : Int)) (fun k => ?_) (l3_ev s hs hb i his (phi s i) _ (fun v' hv' => ih (i + 1) v' (by omega) ⟨hv'.1, fun t h1 h2 => ?_⟩) 16 0 v (by omega) ⟨hl, fun t h1 h2 => ?_⟩)
      · simp only [spec_Crc15.l2]
        rw [w64 (by omega) (by omega), if_pos (by omega), if_pos (by omega), if_pos (by omega), hr, hp, if_pos (show b2 true = 1 from rfl)]
        rfl
      · rw [hv'.2 t h1 h2]; dsimp only; rw [phi_step s i t his h1 h2, hp, Bool.true_and]
      · rw [hv.2 t h1 h2]; dsimp only; rw [decide_eq_false (show ¬ t < i + 0 by omega), Bool.false_and, Bool.xor_false]
    | false =>
      refine Ev.step (f := fun k => spec_Crc15.l2 k v (⟨#[49, 49, 48, 48, 48, 49, 48, 49, 49, 48, 48, 49, 49, 48, 48, 49]⟩ : ByteArray) ((i + 1 : Nat) : Int)) (fun k => ?_) (ih (i + 1) v (by omega) ⟨hl, fun t h1 h2 => ?_⟩)
      · simp only [spec_Crc15.l2]
        rw [w64 (x := (i : Int) + 15) (by omega) (by omega), if_pos (by omega), if_pos (by omega), if_pos (by omega), hr, hp, if_neg (by decide), w64 (by omega) (by omega)]
        rfl
      · rw [hv.2 t (by omega) h2, phi_step s i t his h1 h2, hp]; simp
theorem l1_ev (φ : Nat → Bool) (hφ : ∀ t, s.size ≤ t → φ t = false) (r : Int) (next : ∀ v, Holds v (s.size + 15) 0 φ → Ev (fun k => spec_Crc15.l2 k v (⟨#[49, 49, 48, 48, 48, 49, 48, 49, 49, 48, 48, 49, 49, 48, 48, 49]⟩ : ByteArray) 0) r) :
    ∀ (d j : Nat) (v : List Int), j + d = 15 → Holds v (s.size + j) 0 φ → Ev (fun k => spec_Crc15.l1 k v (j : Int)) r := by
  intro d
  induction d with
  | zero =>
    intro j v hj hv
    obtain rfl : j = 15 := by omega
    refine Ev.step (fun k => ?_) (next v hv)
    simp only [spec_Crc15.l1]
    rw [if_neg (by omega)]
  | succ d ih =>
    intro j v hj hv
    obtain ⟨hl, hv⟩ := hv
    refine Ev.step (f := fun k => spec_Crc15.l1 k (v ++ [0]) ((j + 1 : Nat) : Int)) (fun k => ?_) (ih (j + 1) _ (by omega) ⟨by rw [List.length_append, hl]; simp; omega, fun t h1 h2 => ?_⟩)
    · simp only [spec_Crc15.l1]
      rw [if_pos (by omega), if_pos (by omega), w64 (by omega) (by omega)]
      rfl
    · rw [rd_snoc]
      by_cases h : t < v.length
      · rw [if_pos h, hv t h1 (by omega)]
      · rw [if_neg h, if_pos (by omega), hφ t (by omega)]; rfl
theorem l0_ev (r : Int) (next : ∀ v, Holds v s.size 0 (fun t => decide (t < s.size) && bitB (bt s (t : Int))) → Ev (fun k => spec_Crc15.l1 k v 0) r) :
    ∀ (d i : Nat) (v : List Int), i + d = s.size → Holds v i 0 (fun t => decide (t < s.size) && bitB (bt s (t : Int))) → Ev (fun k => spec_Crc15.l0 k s v (i : Int)) r := by
  intro d
  induction d with
  | zero =>
    intro i v hi hv
    obtain rfl : i = s.size := by omega
    refine Ev.step (fun k => ?_) (next v hv)
    simp only [spec_Crc15.l0]
    rw [if_neg (by omega)]
  | succ d ih =>
    intro i v hi hv
    obtain ⟨hl, hv⟩ := hv
    have hx : (bt s (i : Int) - 48) % 256 = b2 (bitB (bt s (i : Int))) := by
      rcases bit_at s hb i (by omega) with e | e <;> rw [e] <;> decide
    refine Ev.step (f := fun k => spec_Crc15.l0 k s (v ++ [b2 (bitB (bt s (i : Int)))]) ((i + 1 : Nat) : Int)) (fun k => ?_) (ih (i + 1) _ (by omega) ⟨by rw [List.length_append, hl]; rfl, fun t h1 h2 => ?_⟩)
    · simp only [spec_Crc15.l0]
      rw [if_pos (by omega), if_pos (by omega), if_pos (by omega), w64 (by omega) (by omega), hx]
      rfl
    · rw [rd_snoc]
      by_cases h : t < v.length
      · rw [if_pos h, hv t h1 (by omega)]
      · obtain rfl : t = i := by omega
        rw [if_neg h, if_pos hl.symm]; dsimp only; rw [decide_eq_true (show t < s.size by omega), Bool.true_and]
end
def crcV (s : ByteArray) : Int := if s.size ≤ 2000 ∧ isBits s = true then (crcL (bytesOf s) : Int) else -1
theorem specCrc15_ev (s : ByteArray) (h : s.size < 100000000) : Ev (fun k => spec_Crc15.f k s) (crcV s) := by
  have hk := okBits_ev s 2000 (by omega)
  unfold crcV
  by_cases c : s.size ≤ 2000 ∧ isBits s = true
  · rw [if_pos c]
    rw [c.2, decide_eq_true c.1] at hk
    refine Ev.congr (fun k => rfl) (Ev.bind (f := fun k t => if t = true then spec_Crc15.l0 k s ([] : List Int) 0 else some (-1)) hk ?_)
    simp only [Bool.and_self, if_true]
    refine l0_ev s c.1 c.2 _ (fun v hv => l1_ev s c.1 c.2 _ (fun t ht => by rw [decide_eq_false (by omega)]; rfl) _ (fun v' hv' => l2_ev s c.1 c.2 s.size 0 v' (by omega) ⟨hv'.1, fun t h1 h2 => ?_⟩) 15 0 v (by omega) hv) s.size 0 [] (by omega) ⟨rfl, fun t h1 h2 => by omega⟩
    rw [hv'.2 t h1 h2]; dsimp only; unfold phi
    rw [List.take_zero]
    simp [crcL]
  · rw [if_neg c]
    have hf : (decide (s.size ≤ 2000) && isBits s) = false := by
      rw [Bool.and_eq_false_iff]
      by_cases hh : isBits s = true
      · exact .inl (decide_eq_false fun h2 => c ⟨h2, hh⟩)
      · exact .inr (by simpa using hh)
    rw [hf] at hk
    exact Ev.congr (fun k => rfl) (Ev.bind (f := fun k t => if t = true then spec_Crc15.l0 k s ([] : List Int) 0 else some (-1)) hk (Ev.now _))
end Go.Proofs.Ytdoclpgciadjaaa.P

namespace Go.Proofs.Ytdoclpgciadjaaa.P
open Go.RowKit Go.Proofs.YtdoclpgciadjaaaW.PrintWords Go.Proofs.YtdoclpgciadjaaaW.PrintLast Go.Proofs.YtdoclpgciadjaaaW.PrintMore
set_option linter.unusedVariables false
set_option linter.unusedSimpArgs false
def spec_l1val.l0 : Nat → ByteArray → Int → Int → Option (Int)
  | 0, _, _, _ => none
  | k + 1, x0, x3, x4 => if x4 < (x0.size : Int) then (if 0 ≤ x4 then (if (bt x0 x4) = 49 then (spec_l1val.l0 k x0 (wrap64 ((wrap64 (2 * x3)) + 1)) (wrap64 (x4 + 1))) else (spec_l1val.l0 k x0 (wrap64 (2 * x3)) (wrap64 (x4 + 1)))) else (none)) else (some x3)
def spec_l1val.f (k : Nat) (a0 : ByteArray) : Option (Int) := spec_l1val.l0 k a0 0 0
theorem spec_l1val.mono_l : ∀ k, (∀ y0 y1 y2, LeO (spec_l1val.l0 k y0 y1 y2) (spec_l1val.l0 (k + 1) y0 y1 y2))
  | 0 => fun _ _ _ r h => by simp [spec_l1val.l0] at h
  | k + 1 => by
    have ih0 := spec_l1val.mono_l k
    · intro y0 y1 y2
      unfold spec_l1val.l0
      repeat' first
      | (with_reducible exact ih0 _ _ _)
      | (with_reducible exact LeO.refl _)
      | (with_reducible exact LeO.none _)
      | (with_reducible refine LeO.ite ?_ ?_)
      | (with_reducible refine LeO.bind ?_ (fun _ => ?_))
      | exact ih0 _ _ _
      | exact LeO.none _
      | refine LeO.ite ?_ ?_
      | refine LeO.bind ?_ (fun _ => ?_)
theorem spec_l1val.mono : ∀ a0 k, LeO (spec_l1val.f k a0) (spec_l1val.f (k + 1) a0) := by
  intro a0 k
  have ih0 := spec_l1val.mono_l k
  unfold spec_l1val.f
  repeat' first
      | (with_reducible exact ih0 _ _ _)
      | (with_reducible exact LeO.refl _)
      | (with_reducible exact LeO.none _)
      | (with_reducible refine LeO.ite ?_ ?_)
      | (with_reducible refine LeO.bind ?_ (fun _ => ?_))
      | exact ih0 _ _ _
      | exact LeO.none _
      | refine LeO.ite ?_ ?_
      | refine LeO.bind ?_ (fun _ => ?_)
set_option maxHeartbeats 8000000 in
set_option maxRecDepth 100000 in
theorem spec_l1val.calls (k : Nat) (a0 : ByteArray) (r : Int) (w : World) (h : spec_l1val.f k a0 = some r) :
    Calls Try.prog 103 #[.string a0] w fun e w' => e = .returned (.int .i64 r) ∧ Drawn0 w w' := by
  have H : (spec_l1val.l0 k a0 0 0) = some r := h
  clear h
  have H' := Aside0.mk H
  clear H
  go_enter Try.func103, Try.ntmps103
  go_wp2
  go_loopg [3, 4] k (fun kq v3 v4 w' => ∃ (x3_1 : Int) (x4_1 : Int), v3 = .int .i64 x3_1 ∧ v4 = .int .i64 x4_1 ∧ Aside0 (spec_l1val.l0 kq a0 x3_1 x4_1 = some r) ∧ Aside0 (kq ≤ k) ∧ Drawn0 w w')
  case atStart => exact ⟨(0), (0), (by first | rfl | (simp; done) | (simp [*]; done)), (by first | rfl | (simp; done) | (simp [*]; done)), H', ⟨Nat.le_refl _⟩, by repeat (first | exact Drawn0.refl _ | apply Drawn0.step)⟩
  case round =>
    clear H'
    try clear c1
    obtain ⟨x3_1, x4_1, rfl, rfl, HA, HK1, ⟨m1, rfl⟩⟩ := hrel
    cases gk with
    | zero => exact absurd HA.out (by simp [spec_l1val.l0])
    | succ k1 =>
      have H := HA.out
      clear HA
      simp only [spec_l1val.l0] at H
      by_cases c2 : x4_1 < (a0.size : Int)
      · rw [if_pos c2] at H
        have c2b0 : decide (x4_1 < (a0.size : Int)) = true := decide_eq_true c2
        clear c2
        by_cases c3 : 0 ≤ x4_1
        · rw [if_pos c3] at H
          have c3b0 : decide (0 ≤ x4_1) = true := decide_eq_true c3
          clear c3
          by_cases c5 : (bt a0 x4_1) = 49
          · rw [if_pos c5] at H
            have c5b0 : ((bt a0 x4_1) == 49) = true := beq_iff_eq.mpr c5
            have c5b1 : ((bt a0 x4_1) != 49) = false := bne_eq_false_iff_eq.mpr c5
            clear c5
            have H' := Aside0.mk H
            clear H
            have p4 : 0 ≤ (x4_1 : Int) := of_decide_eq_true (by first | (with_reducible assumption) | assumption)
            have q4 : x4_1 < (a0.size : Int) := of_decide_eq_true (by first | (with_reducible assumption) | assumption)
            have hx4 := bt_at a0 x4_1
            replace p4 := eq_true p4
            replace q4 := eq_true q4
            go_wp2
            go_roundg k1
            case measure => have := HK1.out; omega
            case rel => exact ⟨(wrap64 ((wrap64 (2 * x3_1)) + 1)), (wrap64 (x4_1 + 1)), (by first | rfl | (simp; done) | (simp [*]; done)), (by first | rfl | (simp; done) | (simp [*]; done)), H', ⟨by have := HK1.out; omega⟩, by repeat (first | exact Drawn0.refl _ | apply Drawn0.step)⟩
          · rw [if_neg c5] at H
            have c5b0 : ((bt a0 x4_1) == 49) = false := beq_eq_false_iff_ne.mpr c5
            have c5b1 : ((bt a0 x4_1) != 49) = true := bne_iff_ne.mpr c5
            have H' := Aside0.mk H
            clear H
            have p4 : 0 ≤ (x4_1 : Int) := of_decide_eq_true (by first | (with_reducible assumption) | assumption)
            have q4 : x4_1 < (a0.size : Int) := of_decide_eq_true (by first | (with_reducible assumption) | assumption)
            have hx4 := bt_at a0 x4_1
            replace p4 := eq_true p4
            replace q4 := eq_true q4
            go_wp2
            go_roundg k1
            case measure => have := HK1.out; omega
            case rel => exact ⟨(wrap64 (2 * x3_1)), (wrap64 (x4_1 + 1)), (by first | rfl | (simp; done) | (simp [*]; done)), (by first | rfl | (simp; done) | (simp [*]; done)), H', ⟨by have := HK1.out; omega⟩, by repeat (first | exact Drawn0.refl _ | apply Drawn0.step)⟩
        · rw [if_neg c3] at H
          exact absurd H (by simp)
      · rw [if_neg c2] at H
        have c2b0 : decide (x4_1 < (a0.size : Int)) = false := decide_eq_false c2
        clear c2
        obtain rfl := Option.some.inj H
        go_wp2
        go_ret
        exact ⟨by first | rfl | (simp; done) | (simp [*]; done), by repeat (first | exact Drawn0.refl _ | apply Drawn0.step)⟩
end Go.Proofs.Ytdoclpgciadjaaa.P

namespace Go.Proofs.Ytdoclpgciadjaaa.P
open Go.RowKit Go.Proofs.YtdoclpgciadjaaaW.PrintWords Go.Proofs.YtdoclpgciadjaaaW.PrintLast Go.Proofs.YtdoclpgciadjaaaW.PrintMore
set_option linter.unusedVariables false
set_option linter.unusedSimpArgs false
mutual
def spec_l1lay.j0 : Nat → List Int → Int → Option (Int × Int)
  | 0, _, _ => none
  | k + 1, x0, x4 => if (x0.length : Int) < x4 then (some (x4, 0)) else (if 12 < (x0.length : Int) then (if x4 = 39 then (if 32 < (x0.length : Int) then (spec_l1lay.j1 k x0 x4 ((rd x0 32) == 49)) else (none)) else (spec_l1lay.j1 k x0 x4 ((rd x0 12) == 49))) else (none))
def spec_l1lay.j1 : Nat → List Int → Int → Bool → Option (Int × Int)
  | 0, _, _, _ => none
  | k + 1, x0, x4, x5 => if 0 ≤ (wrap64 (x4 - 4)) then (if (wrap64 (x4 - 4)) ≤ x4 then (if x4 ≤ (x0.length : Int) then ((spec_l1val.f k (strOfNums ((x0.take (x4 : Int).toNat).drop ((wrap64 (x4 - 4)) : Int).toNat))).bind fun t152 => (if t152 > 8 then (if x5 = true then (some (x4, wrap64 (x4 + (8 * 0)))) else (some (x4, wrap64 (x4 + (8 * 8))))) else (if x5 = true then (some (x4, wrap64 (x4 + (8 * 0)))) else (some (x4, wrap64 (x4 + (wrap64 (8 * t152)))))))) else (none)) else (none)) else (none)
end
def spec_l1lay.f (k : Nat) (l0 : List Int) : Option (Int × Int) := if (l0.length : Int) < 14 then (some (0, 0)) else (if 13 < (l0.length : Int) then (if (rd l0 13) = 49 then (spec_l1lay.j0 k l0 39) else (spec_l1lay.j0 k l0 19)) else (none))
theorem spec_l1lay.mono_l : ∀ k, (∀ y0 y1, LeO (spec_l1lay.j0 k y0 y1) (spec_l1lay.j0 (k + 1) y0 y1)) ∧ (∀ y0 y1 y2, LeO (spec_l1lay.j1 k y0 y1 y2) (spec_l1lay.j1 (k + 1) y0 y1 y2))
  | 0 => ⟨fun _ _ r h => by simp [spec_l1lay.j0] at h, fun _ _ _ r h => by simp [spec_l1lay.j1] at h⟩
  | k + 1 => by
    obtain ⟨ih0, ih1⟩ := spec_l1lay.mono_l k
    refine ⟨?_, ?_⟩
    · intro y0 y1
      unfold spec_l1lay.j0
      repeat' first
      | (with_reducible exact ih0 _ _)
      | (with_reducible exact ih1 _ _ _)
      | (with_reducible exact spec_l1val.mono _ _)
      | (with_reducible exact LeO.refl _)
      | (with_reducible exact LeO.none _)
      | (with_reducible refine LeO.ite ?_ ?_)
      | (with_reducible refine LeO.bind ?_ (fun _ => ?_))
      | exact ih0 _ _
      | exact ih1 _ _ _
      | exact spec_l1val.mono _ _
      | exact LeO.none _
      | refine LeO.ite ?_ ?_
      | refine LeO.bind ?_ (fun _ => ?_)
    · intro y0 y1 y2
      unfold spec_l1lay.j1
      repeat' first
      | (with_reducible exact ih0 _ _)
      | (with_reducible exact ih1 _ _ _)
      | (with_reducible exact spec_l1val.mono _ _)
      | (with_reducible exact LeO.refl _)
      | (with_reducible exact LeO.none _)
      | (with_reducible refine LeO.ite ?_ ?_)
      | (with_reducible refine LeO.bind ?_ (fun _ => ?_))
      | exact ih0 _ _
      | exact ih1 _ _ _
      | exact spec_l1val.mono _ _
      | exact LeO.none _
      | refine LeO.ite ?_ ?_
      | refine LeO.bind ?_ (fun _ => ?_)
theorem spec_l1lay.mono : ∀ a0 k, LeO (spec_l1lay.f k a0) (spec_l1lay.f (k + 1) a0) := by
  intro a0 k
  obtain ⟨ih0, ih1⟩ := spec_l1lay.mono_l k
  unfold spec_l1lay.f
  repeat' first
      | (with_reducible exact ih0 _ _)
      | (with_reducible exact ih1 _ _ _)
      | (with_reducible exact spec_l1val.mono _ _)
      | (with_reducible exact LeO.refl _)
      | (with_reducible exact LeO.none _)
      | (with_reducible refine LeO.ite ?_ ?_)
      | (with_reducible refine LeO.bind ?_ (fun _ => ?_))
      | exact ih0 _ _
      | exact ih1 _ _ _
      | exact spec_l1val.mono _ _
      | exact LeO.none _
      | refine LeO.ite ?_ ?_
      | refine LeO.bind ?_ (fun _ => ?_)
set_option maxHeartbeats 8000000 in
set_option maxRecDepth 100000 in
theorem spec_l1lay.calls (k : Nat) (A0 : Option Addr) (c0 : Nat) (l0 : List Int) (r1 : Int) (r2 : Int) (w : World) (hr0 : Kd.C (Kd.int .u8) w A0 l0.length l0) (hc0 : l0.length ≤ c0) (h : spec_l1lay.f k l0 = some (r1, r2)) :
    Calls Try.prog 102 #[.slice A0 l0.length c0] w fun e w' => e = .returned (.tuple #[.int .i64 r1, .int .i64 r2]) ∧ Drawn0 w w' := by
  have HR0 := Aside0.mk hr0
  have HC0 := Aside0.mk hc0
  clear hr0 hc0
  have H : (if (l0.length : Int) < 14 then (some (0, 0)) else (if 13 < (l0.length : Int) then (if (rd l0 13) = 49 then (spec_l1lay.j0 k l0 39) else (spec_l1lay.j0 k l0 19)) else (none))) = some (r1, r2) := h
  clear h
  by_cases c2 : (l0.length : Int) < 14
  · rw [if_pos c2] at H
    have c2b0 : decide ((l0.length : Int) < 14) = true := decide_eq_true c2
    have c2b1 : decide (l0.length < 14) = true := decide_eq_true (by omega)
    clear c2
    simp only [Option.some.injEq, Prod.mk.injEq] at H
    obtain ⟨rfl, rfl⟩ := H
    go_enter Try.func102, Try.ntmps102
    go_wp2
    go_ret2
    exact ⟨by first | rfl | (simp; done) | (simp [*]; done), by repeat (first | exact Drawn0.refl _ | apply Drawn0.step)⟩
  · rw [if_neg c2] at H
    have c2b0 : decide ((l0.length : Int) < 14) = false := decide_eq_false c2
    have c2b1 : decide (l0.length < 14) = false := decide_eq_false (by omega)
    clear c2
    by_cases c3 : 13 < (l0.length : Int)
    · rw [if_pos c3] at H
      have c3b0 : decide (13 < (l0.length : Int)) = true := decide_eq_true c3
      have c3b1 : decide (13 < l0.length) = true := decide_eq_true (by omega)
      clear c3
      have HC4 := Aside0.mk H
      clear H
      have p148 : 0 ≤ (13 : Int) := (by omega)
      have q148 : 13 < (l0.length : Int) := of_decide_eq_true (by first | (with_reducible assumption) | assumption)
      obtain ⟨ad148, e148, hx148_0⟩ := Kd.at_int HR0.out 13 p148 q148
      cases e148
      (try simp only [show (13 : Int).toNat = 13 from rfl, Nat.reduceMul, Nat.reduceEqDiff, Go.Addr.add, ↓reduceIte] at hx148_0)
      have qi148 : (13 < l0.length) = True := eq_true (by omega)
      (try rw [show ((13 : Int)).toNat = 13 from rfl] at hx148_0)
      replace p148 := eq_true p148
      replace q148 := eq_true q148
      go_enter Try.func102, Try.ntmps102
      go_upto_if 13 with (fail)
      go_cut [4] (fun v4 wc => ∃ (kq : Nat) (x4_3 : Int), v4 = .int .i64 x4_3 ∧ Aside0 (spec_l1lay.j0 kq l0 x4_3 = some (r1, r2)) ∧ Aside0 (kq ≤ k) ∧ Drawn0 w wc)
      case first =>
        have H := HC4.out
        clear HC4
        by_cases c5 : (rd l0 13) = 49
        · rw [if_pos c5] at H
          have c5b0 : ((rd l0 13) == 49) = true := beq_iff_eq.mpr c5
          have c5b1 : ((rd l0 13) != 49) = false := bne_eq_false_iff_eq.mpr c5
          clear c5
          (first | rw [c5b0] | (simp only [i64_w, i32_w]; rw [c5b0]) | skip)
          have H' := Aside0.mk H
          clear H
          go_wp2
          go_meet
          case rel => exact ⟨_, (39), (by first | rfl | (simp; done) | (simp [*]; done)), H', ⟨by first | omega | exact Nat.le_refl _⟩, by repeat (first | exact Drawn0.refl _ | apply Drawn0.step)⟩
        · rw [if_neg c5] at H
          have c5b0 : ((rd l0 13) == 49) = false := beq_eq_false_iff_ne.mpr c5
          have c5b1 : ((rd l0 13) != 49) = true := bne_iff_ne.mpr c5
          (first | rw [c5b0] | (simp only [i64_w, i32_w]; rw [c5b0]) | skip)
          have H' := Aside0.mk H
          clear H
          go_wp2
          go_meet
          case rel => exact ⟨_, (19), (by first | rfl | (simp; done) | (simp [*]; done)), H', ⟨by first | omega | exact Nat.le_refl _⟩, by repeat (first | exact Drawn0.refl _ | apply Drawn0.step)⟩
      case rest =>
        clear HC4
        try clear c1
        try clear p1
        try clear q1
        try clear hx1
        try clear qi1
        try clear c2
        try clear c2b0
        try clear c2b1
        try clear p2
        try clear c3
        try clear c3b0
        try clear c3b1
        try clear c5
        try clear c5b0
        try clear c5b1
        try clear hx148_0
        try clear p148
        try clear q148
        obtain ⟨kq, x4_3, rfl, HA, HJ3, ⟨mc3, rfl⟩⟩ := hcut
        cases kq with
        | zero => exact absurd HA.out (by simp [spec_l1lay.j0])
        | succ kj3 =>
          have H := HA.out
          clear HA
          simp only [spec_l1lay.j0] at H
          by_cases c6 : (l0.length : Int) < x4_3
          · rw [if_pos c6] at H
            have c6b0 : decide ((l0.length : Int) < x4_3) = true := decide_eq_true c6
            clear c6
            simp only [Option.some.injEq, Prod.mk.injEq] at H
            obtain ⟨rfl, rfl⟩ := H
            go_wp2
            go_ret2
            exact ⟨by first | rfl | (simp; done) | (simp [*]; done), by repeat (first | exact Drawn0.refl _ | apply Drawn0.step)⟩
          · rw [if_neg c6] at H
            have c6b0 : decide ((l0.length : Int) < x4_3) = false := decide_eq_false c6
            clear c6
            by_cases c7 : 12 < (l0.length : Int)
            · rw [if_pos c7] at H
              have c7b0 : decide (12 < (l0.length : Int)) = true := decide_eq_true c7
              have c7b1 : decide (12 < l0.length) = true := decide_eq_true (by omega)
              clear c7
              have HC8 := Aside0.mk H
              clear H
              have p149 : 0 ≤ (12 : Int) := (by omega)
              have q149 : 12 < (l0.length : Int) := of_decide_eq_true (by first | (with_reducible assumption) | assumption)
              obtain ⟨ad149, e149, hx149_0⟩ := Kd.at_int HR0.out 12 p149 q149
              obtain rfl : ad148 = ad149 := (by injection e149)
              (try simp only [show (12 : Int).toNat = 12 from rfl, Nat.reduceMul, Nat.reduceEqDiff, Go.Addr.add, ↓reduceIte] at hx149_0)
              have qi149 : (12 < l0.length) = True := eq_true (by omega)
              (try rw [show ((12 : Int)).toNat = 12 from rfl] at hx149_0)
              replace p149 := eq_true p149
              replace q149 := eq_true q149
              go_upto_if 24 with (fail)
              go_cut [5] (fun v5 wc => ∃ (kq : Nat) (x5_7 : Bool), v5 = .bool x5_7 ∧ Aside0 (spec_l1lay.j1 kq l0 x4_3 x5_7 = some (r1, r2)) ∧ Aside0 (kq ≤ kj3) ∧ Drawn0 w wc)
              case first =>
                have H := HC8.out
                clear HC8
                by_cases c9 : x4_3 = 39
                · rw [if_pos c9] at H
                  have c9b0 : (x4_3 == 39) = true := beq_iff_eq.mpr c9
                  have c9b1 : (x4_3 != 39) = false := bne_eq_false_iff_eq.mpr c9
                  clear c9
                  (first | rw [c9b0] | (simp only [i64_w, i32_w]; rw [c9b0]) | skip)
                  by_cases c10 : 32 < (l0.length : Int)
                  · rw [if_pos c10] at H
                    have c10b0 : decide (32 < (l0.length : Int)) = true := decide_eq_true c10
                    have c10b1 : decide (32 < l0.length) = true := decide_eq_true (by omega)
                    clear c10
                    have H' := Aside0.mk H
                    clear H
                    have p150 : 0 ≤ (32 : Int) := (by omega)
                    have q150 : 32 < (l0.length : Int) := of_decide_eq_true (by first | (with_reducible assumption) | assumption)
                    obtain ⟨ad150, e150, hx150_0⟩ := Kd.at_int HR0.out 32 p150 q150
                    obtain rfl : ad148 = ad150 := (by injection e150)
                    (try simp only [show (32 : Int).toNat = 32 from rfl, Nat.reduceMul, Nat.reduceEqDiff, Go.Addr.add, ↓reduceIte] at hx150_0)
                    have qi150 : (32 < l0.length) = True := eq_true (by omega)
                    (try rw [show ((32 : Int)).toNat = 32 from rfl] at hx150_0)
                    replace p150 := eq_true p150
                    replace q150 := eq_true q150
                    go_wp2
                    go_meet
                    case rel => exact ⟨_, (((rd l0 32) == 49)), (by first | rfl | (simp; done) | (simp [*]; done)), H', ⟨by have := HJ3.out; first | omega | exact Nat.le_refl _⟩, by repeat (first | exact Drawn0.refl _ | apply Drawn0.step)⟩
                  · rw [if_neg c10] at H
                    exact absurd H (by simp)
                · rw [if_neg c9] at H
                  have c9b0 : (x4_3 == 39) = false := beq_eq_false_iff_ne.mpr c9
                  have c9b1 : (x4_3 != 39) = true := bne_iff_ne.mpr c9
                  (first | rw [c9b0] | (simp only [i64_w, i32_w]; rw [c9b0]) | skip)
                  have H' := Aside0.mk H
                  clear H
                  go_wp2
                  go_meet
                  case rel => exact ⟨_, (((rd l0 12) == 49)), (by first | rfl | (simp; done) | (simp [*]; done)), H', ⟨by have := HJ3.out; first | omega | exact Nat.le_refl _⟩, by repeat (first | exact Drawn0.refl _ | apply Drawn0.step)⟩
              case rest =>
                clear HC8
                try clear c1
                try clear p1
                try clear q1
                try clear hx1
                try clear qi1
                try clear c2
                try clear c2b0
                try clear c2b1
                try clear p2
                try clear c3
                try clear c3b0
                try clear c3b1
                try clear c5
                try clear c5b0
                try clear c5b1
                try clear c6
                try clear c6b0
                try clear c7
                try clear c7b0
                try clear c7b1
                try clear c9
                try clear c9b0
                try clear c9b1
                try clear c10
                try clear c10b0
                try clear c10b1
                try clear hx148_0
                try clear hx149_0
                try clear hx150_0
                try clear p1
                try clear p148
                try clear p149
                try clear p150
                try clear p2
                try clear q1
                try clear q148
                try clear q149
                try clear q150
                obtain ⟨kq, x5_7, rfl, HA, HJ7, ⟨mc7, rfl⟩⟩ := hcut
                cases kq with
                | zero => exact absurd HA.out (by simp [spec_l1lay.j1])
                | succ kj7 =>
                  have H := HA.out
                  clear HA
                  simp only [spec_l1lay.j1] at H
                  obtain ⟨ji11, hji11⟩ : ∃ j_ : Int, (wrap64 (x4_3 - 4)) = j_ := ⟨_, rfl⟩
                  replace H : (if 0 ≤ (ji11) then (if (ji11) ≤ x4_3 then (if x4_3 ≤ (l0.length : Int) then ((spec_l1val.f kj7 (strOfNums ((l0.take (x4_3 : Int).toNat).drop ((ji11) : Int).toNat))).bind fun t152 => (if t152 > 8 then (if x5_7 = true then (some (x4_3, wrap64 (x4_3 + (8 * 0)))) else (some (x4_3, wrap64 (x4_3 + (8 * 8))))) else (if x5_7 = true then (some (x4_3, wrap64 (x4_3 + (8 * 0)))) else (some (x4_3, wrap64 (x4_3 + (wrap64 (8 * t152)))))))) else (none)) else (none)) else (none)) = some (r1, r2) := by first | (rw [hji11] at H; exact H) | (simp only [hji11] at H ⊢; exact H)
                  have hji11w : (IntKind.i64.wrap (x4_3 - 4)) = ji11 := (i64_w _).trans hji11
                  by_cases c12 : 0 ≤ (ji11)
                  · rw [if_pos c12] at H
                    have c12b0 := eq_true c12
                    have c12b1 : decide (0 ≤ (ji11)) = true := decide_eq_true c12
                    clear c12
                    by_cases c13 : (ji11) ≤ x4_3
                    · rw [if_pos c13] at H
                      have c13b0 := eq_true c13
                      have c13b1 : decide ((ji11) ≤ x4_3) = true := decide_eq_true c13
                      clear c13
                      by_cases c14 : x4_3 ≤ (l0.length : Int)
                      · rw [if_pos c14] at H
                        have c14b0 := eq_true c14
                        have c14b1 : decide (x4_3 ≤ (l0.length : Int)) = true := decide_eq_true c14
                        clear c14
                        replace H := Option.bind_eq_some_iff.mp H
                        obtain ⟨t152, A150, H⟩ := H
                        replace H : (if t152 > 8 then (if x5_7 = true then (some (x4_3, wrap64 (x4_3 + (8 * 0)))) else (some (x4_3, wrap64 (x4_3 + (8 * 8))))) else (if x5_7 = true then (some (x4_3, wrap64 (x4_3 + (8 * 0)))) else (some (x4_3, wrap64 (x4_3 + (wrap64 (8 * t152))))))) = some (r1, r2) := H
                        have A15 := Aside0.mk A150
                        clear A150
                        by_cases c16 : t152 > 8
                        · rw [if_pos c16] at H
                          have c16b0 : decide (8 < t152) = true := decide_eq_true c16
                          clear c16
                          by_cases c17 : x5_7 = true
                          · subst c17
                            have H1 : (some (x4_3, wrap64 (x4_3 + (8 * 0)))) = some (r1, r2) := by rw [if_pos rfl] at H; exact H
                            clear H
                            have H := H1
                            clear H1
                            simp only [Option.some.injEq, Prod.mk.injEq] at H
                            obtain ⟨rfl, rfl⟩ := H
                            obtain ⟨i018, hi018, _, hsz18, _⟩ := info_parts info5
                            obtain ⟨A18, hcut18, hA18, hC18⟩ := print_mid_of (P := Try.prog) (Value.int .u8) 0 22 5 .i64 .i64 Try.underlying22 hi018 hsz18 (some ad148) c0 l0 (ji11) x4_3 (of_decide_eq_true (by first | (with_reducible assumption) | assumption)) (by first | omega | exact of_decide_eq_true (by first | (with_reducible assumption) | assumption)) (of_decide_eq_true (by first | (with_reducible assumption) | assumption)) HC0.out
                            have HR151 := Aside0.mk (Kd.C_of_reads (h1 := fun _ => rfl) (hA18 _ (Kd.reads_of_C HR0.out)))
                            have HC151 := Aside0.mk hC18
                            clear hA18 hC18 hi018 hsz18
                            have hl19z : (List.drop ji11.toNat (List.take x4_3.toNat l0)).length = x4_3.toNat - ji11.toNat := by rw [List.length_drop, List.length_take, Nat.min_eq_left (by have := of_decide_eq_true c14b1; omega)]
                            have hcv19 := Kd.C_string (w := w.drewN mc7) (P := Try.prog) (A := A18) (c := (c0 - (ji11).toNat)) Try.underlying22 Try.underlying5 Try.underlying9 HR151.out
                            rw [hl19z] at hcv19
                            clear hl19z
                            go_wp2_with (first | ((with_reducible refine gate_callee (f := 103) rfl ?_); refine goesL_ (some 35) rfl rfl Try.func103 (by kernel_rfl) rfl #[.string (strOfNums ((l0.take (x4_3 : Int).toNat).drop ((ji11) : Int).toNat))] rfl (by (try simp only [List.map_toArray, List.map_cons, List.map_nil]); first | done | (simp only [hji11]; rfl) | rfl | (simp only [List.length_drop, List.length_take]; rfl)) ?_; (with_reducible refine (spec_l1val.calls kj7 (strOfNums ((l0.take (x4_3 : Int).toNat).drop ((ji11) : Int).toNat)) t152 _ A15.out).mono ?_); rintro e w' ⟨rfl, ⟨nd, rfl⟩⟩; refine ⟨_, rfl, ?_⟩))
                            go_ret2
                            exact ⟨by first | rfl | (simp; done) | (simp only [← hji11] <;> (first | rfl | simp)) | (simp [*]; done), by repeat (first | exact Drawn0.refl _ | apply Drawn0.step)⟩
                          · replace c17 := Bool.eq_false_iff.mpr c17
                            subst c17
                            have H1 : (some (x4_3, wrap64 (x4_3 + (8 * 8)))) = some (r1, r2) := by rw [if_neg (show ¬ (false = true) by decide)] at H; exact H
                            clear H
                            have H := H1
                            clear H1
                            simp only [Option.some.injEq, Prod.mk.injEq] at H
                            obtain ⟨rfl, rfl⟩ := H
                            obtain ⟨i020, hi020, _, hsz20, _⟩ := info_parts info5
                            obtain ⟨A20, hcut20, hA20, hC20⟩ := print_mid_of (P := Try.prog) (Value.int .u8) 0 22 5 .i64 .i64 Try.underlying22 hi020 hsz20 (some ad148) c0 l0 (ji11) x4_3 (of_decide_eq_true (by first | (with_reducible assumption) | assumption)) (by first | omega | exact of_decide_eq_true (by first | (with_reducible assumption) | assumption)) (of_decide_eq_true (by first | (with_reducible assumption) | assumption)) HC0.out
                            have HR151 := Aside0.mk (Kd.C_of_reads (h1 := fun _ => rfl) (hA20 _ (Kd.reads_of_C HR0.out)))
                            have HC151 := Aside0.mk hC20
                            clear hA20 hC20 hi020 hsz20
                            have hl21z : (List.drop ji11.toNat (List.take x4_3.toNat l0)).length = x4_3.toNat - ji11.toNat := by rw [List.length_drop, List.length_take, Nat.min_eq_left (by have := of_decide_eq_true c14b1; omega)]
                            have hcv21 := Kd.C_string (w := w.drewN mc7) (P := Try.prog) (A := A20) (c := (c0 - (ji11).toNat)) Try.underlying22 Try.underlying5 Try.underlying9 HR151.out
                            rw [hl21z] at hcv21
                            clear hl21z
                            go_wp2_with (first | ((with_reducible refine gate_callee (f := 103) rfl ?_); refine goesL_ (some 35) rfl rfl Try.func103 (by kernel_rfl) rfl #[.string (strOfNums ((l0.take (x4_3 : Int).toNat).drop ((ji11) : Int).toNat))] rfl (by (try simp only [List.map_toArray, List.map_cons, List.map_nil]); first | done | (simp only [hji11]; rfl) | rfl | (simp only [List.length_drop, List.length_take]; rfl)) ?_; (with_reducible refine (spec_l1val.calls kj7 (strOfNums ((l0.take (x4_3 : Int).toNat).drop ((ji11) : Int).toNat)) t152 _ A15.out).mono ?_); rintro e w' ⟨rfl, ⟨nd, rfl⟩⟩; refine ⟨_, rfl, ?_⟩))
                            go_ret2
                            exact ⟨by first | rfl | (simp; done) | (simp only [← hji11] <;> (first | rfl | simp)) | (simp [*]; done), by repeat (first | exact Drawn0.refl _ | apply Drawn0.step)⟩
                        · rw [if_neg c16] at H
                          have c16b0 : decide (8 < t152) = false := decide_eq_false c16
                          clear c16
                          by_cases c22 : x5_7 = true
                          · subst c22
                            have H1 : (some (x4_3, wrap64 (x4_3 + (8 * 0)))) = some (r1, r2) := by rw [if_pos rfl] at H; exact H
                            clear H
                            have H := H1
                            clear H1
                            simp only [Option.some.injEq, Prod.mk.injEq] at H
                            obtain ⟨rfl, rfl⟩ := H
                            obtain ⟨i023, hi023, _, hsz23, _⟩ := info_parts info5
                            obtain ⟨A23, hcut23, hA23, hC23⟩ := print_mid_of (P := Try.prog) (Value.int .u8) 0 22 5 .i64 .i64 Try.underlying22 hi023 hsz23 (some ad148) c0 l0 (ji11) x4_3 (of_decide_eq_true (by first | (with_reducible assumption) | assumption)) (by first | omega | exact of_decide_eq_true (by first | (with_reducible assumption) | assumption)) (of_decide_eq_true (by first | (with_reducible assumption) | assumption)) HC0.out
                            have HR151 := Aside0.mk (Kd.C_of_reads (h1 := fun _ => rfl) (hA23 _ (Kd.reads_of_C HR0.out)))
                            have HC151 := Aside0.mk hC23
                            clear hA23 hC23 hi023 hsz23
                            have hl24z : (List.drop ji11.toNat (List.take x4_3.toNat l0)).length = x4_3.toNat - ji11.toNat := by rw [List.length_drop, List.length_take, Nat.min_eq_left (by have := of_decide_eq_true c14b1; omega)]
                            have hcv24 := Kd.C_string (w := w.drewN mc7) (P := Try.prog) (A := A23) (c := (c0 - (ji11).toNat)) Try.underlying22 Try.underlying5 Try.underlying9 HR151.out
                            rw [hl24z] at hcv24
                            clear hl24z
                            go_wp2_with (first | ((with_reducible refine gate_callee (f := 103) rfl ?_); refine goesL_ (some 35) rfl rfl Try.func103 (by kernel_rfl) rfl #[.string (strOfNums ((l0.take (x4_3 : Int).toNat).drop ((ji11) : Int).toNat))] rfl (by (try simp only [List.map_toArray, List.map_cons, List.map_nil]); first | done | (simp only [hji11]; rfl) | rfl | (simp only [List.length_drop, List.length_take]; rfl)) ?_; (with_reducible refine (spec_l1val.calls kj7 (strOfNums ((l0.take (x4_3 : Int).toNat).drop ((ji11) : Int).toNat)) t152 _ A15.out).mono ?_); rintro e w' ⟨rfl, ⟨nd, rfl⟩⟩; refine ⟨_, rfl, ?_⟩))
                            go_ret2
                            exact ⟨by first | rfl | (simp; done) | (simp only [← hji11] <;> (first | rfl | simp)) | (simp [*]; done), by repeat (first | exact Drawn0.refl _ | apply Drawn0.step)⟩
                          · replace c22 := Bool.eq_false_iff.mpr c22
                            subst c22
                            have H1 : (some (x4_3, wrap64 (x4_3 + (wrap64 (8 * t152))))) = some (r1, r2) := by rw [if_neg (show ¬ (false = true) by decide)] at H; exact H
                            clear H
                            have H := H1
                            clear H1
                            simp only [Option.some.injEq, Prod.mk.injEq] at H
                            obtain ⟨rfl, rfl⟩ := H
                            obtain ⟨i025, hi025, _, hsz25, _⟩ := info_parts info5
                            obtain ⟨A25, hcut25, hA25, hC25⟩ := print_mid_of (P := Try.prog) (Value.int .u8) 0 22 5 .i64 .i64 Try.underlying22 hi025 hsz25 (some ad148) c0 l0 (ji11) x4_3 (of_decide_eq_true (by first | (with_reducible assumption) | assumption)) (by first | omega | exact of_decide_eq_true (by first | (with_reducible assumption) | assumption)) (of_decide_eq_true (by first | (with_reducible assumption) | assumption)) HC0.out
                            have HR151 := Aside0.mk (Kd.C_of_reads (h1 := fun _ => rfl) (hA25 _ (Kd.reads_of_C HR0.out)))
                            have HC151 := Aside0.mk hC25
                            clear hA25 hC25 hi025 hsz25
                            have hl26z : (List.drop ji11.toNat (List.take x4_3.toNat l0)).length = x4_3.toNat - ji11.toNat := by rw [List.length_drop, List.length_take, Nat.min_eq_left (by have := of_decide_eq_true c14b1; omega)]
                            have hcv26 := Kd.C_string (w := w.drewN mc7) (P := Try.prog) (A := A25) (c := (c0 - (ji11).toNat)) Try.underlying22 Try.underlying5 Try.underlying9 HR151.out
                            rw [hl26z] at hcv26
                            clear hl26z
                            go_wp2_with (first | ((with_reducible refine gate_callee (f := 103) rfl ?_); refine goesL_ (some 35) rfl rfl Try.func103 (by kernel_rfl) rfl #[.string (strOfNums ((l0.take (x4_3 : Int).toNat).drop ((ji11) : Int).toNat))] rfl (by (try simp only [List.map_toArray, List.map_cons, List.map_nil]); first | done | (simp only [hji11]; rfl) | rfl | (simp only [List.length_drop, List.length_take]; rfl)) ?_; (with_reducible refine (spec_l1val.calls kj7 (strOfNums ((l0.take (x4_3 : Int).toNat).drop ((ji11) : Int).toNat)) t152 _ A15.out).mono ?_); rintro e w' ⟨rfl, ⟨nd, rfl⟩⟩; refine ⟨_, rfl, ?_⟩))
                            go_ret2
                            exact ⟨by first | rfl | (simp; done) | (simp only [← hji11] <;> (first | rfl | simp)) | (simp [*]; done), by repeat (first | exact Drawn0.refl _ | apply Drawn0.step)⟩
                      · rw [if_neg c14] at H
                        exact absurd H (by simp)
                    · rw [if_neg c13] at H
                      exact absurd H (by simp)
                  · rw [if_neg c12] at H
                    exact absurd H (by simp)
            · rw [if_neg c7] at H
              exact absurd H (by simp)
    · rw [if_neg c3] at H
      exact absurd H (by simp)
end Go.Proofs.Ytdoclpgciadjaaa.P

namespace Go.Proofs.Ytdoclpgciadjaaa.P
open Go.RowKit Go.Proofs.YtdoclpgciadjaaaW.PrintWords Go.Proofs.YtdoclpgciadjaaaW.PrintLast Go.Proofs.YtdoclpgciadjaaaW.PrintMore
set_option linter.unusedVariables false
set_option linter.unusedSimpArgs false
def spec_l1field.f (k : Nat) (l0 : List Int) : Option (Int) := if (l0.length : Int) = 0 then (some 1) else (if (l0.length : Int) < 12 then (some 2) else (if (l0.length : Int) = 12 then (some 3) else (if (l0.length : Int) = 13 then (some 4) else ((spec_l1lay.f k l0).bind fun bt153 => (if (l0.length : Int) < bt153.1 then (if (l0.length : Int) ≥ (wrap64 (bt153.1 - 4)) then (some 8) else (if bt153.1 = 19 then (some 7) else (if (l0.length : Int) < 32 then (some 5) else (if (l0.length : Int) = 32 then (some 6) else (some 7))))) else (if (l0.length : Int) < bt153.2 then (some 9) else (if (l0.length : Int) < (wrap64 (bt153.2 + 15)) then (some 10) else (if (l0.length : Int) < (wrap64 (bt153.2 + 18)) then (some (wrap64 ((wrap64 ((wrap64 (11 + (l0.length : Int))) - bt153.2)) - 15))) else (if (l0.length : Int) < (wrap64 (bt153.2 + 25)) then (some 14) else (some 15))))))))))
theorem spec_l1field.mono : ∀ a0 k, LeO (spec_l1field.f k a0) (spec_l1field.f (k + 1) a0) := by
  intro a0 k
  unfold spec_l1field.f
  repeat' first
      | (with_reducible exact spec_l1lay.mono _ _)
      | (with_reducible exact LeO.refl _)
      | (with_reducible exact LeO.none _)
      | (with_reducible refine LeO.ite ?_ ?_)
      | (with_reducible refine LeO.bind ?_ (fun _ => ?_))
      | exact spec_l1lay.mono _ _
      | exact LeO.none _
      | refine LeO.ite ?_ ?_
      | refine LeO.bind ?_ (fun _ => ?_)
set_option maxHeartbeats 8000000 in
set_option maxRecDepth 100000 in
theorem spec_l1field.calls (k : Nat) (A0 : Option Addr) (c0 : Nat) (l0 : List Int) (r : Int) (w : World) (hr0 : Kd.C (Kd.int .u8) w A0 l0.length l0) (hc0 : l0.length ≤ c0) (h : spec_l1field.f k l0 = some r) :
    Calls Try.prog 87 #[.slice A0 l0.length c0] w fun e w' => e = .returned (.int .i64 r) ∧ Drawn0 w w' := by
  have HR0 := Aside0.mk hr0
  have HC0 := Aside0.mk hc0
  clear hr0 hc0
  have H : (if (l0.length : Int) = 0 then (some 1) else (if (l0.length : Int) < 12 then (some 2) else (if (l0.length : Int) = 12 then (some 3) else (if (l0.length : Int) = 13 then (some 4) else ((spec_l1lay.f k l0).bind fun bt153 => (if (l0.length : Int) < bt153.1 then (if (l0.length : Int) ≥ (wrap64 (bt153.1 - 4)) then (some 8) else (if bt153.1 = 19 then (some 7) else (if (l0.length : Int) < 32 then (some 5) else (if (l0.length : Int) = 32 then (some 6) else (some 7))))) else (if (l0.length : Int) < bt153.2 then (some 9) else (if (l0.length : Int) < (wrap64 (bt153.2 + 15)) then (some 10) else (if (l0.length : Int) < (wrap64 (bt153.2 + 18)) then (some (wrap64 ((wrap64 ((wrap64 (11 + (l0.length : Int))) - bt153.2)) - 15))) else (if (l0.length : Int) < (wrap64 (bt153.2 + 25)) then (some 14) else (some 15))))))))))) = some r := h
  clear h
  by_cases c2 : (l0.length : Int) = 0
  · rw [if_pos c2] at H
    have c2b0 : ((l0.length : Int) == 0) = true := beq_iff_eq.mpr c2
    have c2b1 : ((l0.length : Int) != 0) = false := bne_eq_false_iff_eq.mpr c2
    clear c2
    obtain rfl := Option.some.inj H
    go_enter Try.func87, Try.ntmps87
    go_wp2
    go_ret
    exact ⟨by first | rfl | (simp; done) | (simp [*]; done), by repeat (first | exact Drawn0.refl _ | apply Drawn0.step)⟩
  · rw [if_neg c2] at H
    have c2b0 : ((l0.length : Int) == 0) = false := beq_eq_false_iff_ne.mpr c2
    have c2b1 : ((l0.length : Int) != 0) = true := bne_iff_ne.mpr c2
    have c2b2 : ¬ (l0 = []) := fun h_ => c2 (by rw [h_]; rfl)
    by_cases c3 : (l0.length : Int) < 12
    · rw [if_pos c3] at H
      have c3b0 : decide ((l0.length : Int) < 12) = true := decide_eq_true c3
      have c3b1 : decide (l0.length < 12) = true := decide_eq_true (by omega)
      clear c3
      obtain rfl := Option.some.inj H
      go_enter Try.func87, Try.ntmps87
      go_wp2
      go_ret
      exact ⟨by first | rfl | (simp; done) | (simp [*]; done), by repeat (first | exact Drawn0.refl _ | apply Drawn0.step)⟩
    · rw [if_neg c3] at H
      have c3b0 : decide ((l0.length : Int) < 12) = false := decide_eq_false c3
      have c3b1 : decide (l0.length < 12) = false := decide_eq_false (by omega)
      clear c3
      by_cases c4 : (l0.length : Int) = 12
      · rw [if_pos c4] at H
        have c4b0 : ((l0.length : Int) == 12) = true := beq_iff_eq.mpr c4
        have c4b1 : ((l0.length : Int) != 12) = false := bne_eq_false_iff_eq.mpr c4
        clear c4
        obtain rfl := Option.some.inj H
        go_enter Try.func87, Try.ntmps87
        go_wp2
        go_ret
        exact ⟨by first | rfl | (simp; done) | (simp [*]; done), by repeat (first | exact Drawn0.refl _ | apply Drawn0.step)⟩
      · rw [if_neg c4] at H
        have c4b0 : ((l0.length : Int) == 12) = false := beq_eq_false_iff_ne.mpr c4
        have c4b1 : ((l0.length : Int) != 12) = true := bne_iff_ne.mpr c4
        by_cases c5 : (l0.length : Int) = 13
        · rw [if_pos c5] at H
          have c5b0 : ((l0.length : Int) == 13) = true := beq_iff_eq.mpr c5
          have c5b1 : ((l0.length : Int) != 13) = false := bne_eq_false_iff_eq.mpr c5
          clear c5
          obtain rfl := Option.some.inj H
          go_enter Try.func87, Try.ntmps87
          go_wp2
          go_ret
          exact ⟨by first | rfl | (simp; done) | (simp [*]; done), by repeat (first | exact Drawn0.refl _ | apply Drawn0.step)⟩
        · rw [if_neg c5] at H
          have c5b0 : ((l0.length : Int) == 13) = false := beq_eq_false_iff_ne.mpr c5
          have c5b1 : ((l0.length : Int) != 13) = true := bne_iff_ne.mpr c5
          replace H := Option.bind_eq_some_iff.mp H
          obtain ⟨⟨t153, t154⟩, A60, H⟩ := H
          replace H : (if (l0.length : Int) < t153 then (if (l0.length : Int) ≥ (wrap64 (t153 - 4)) then (some 8) else (if t153 = 19 then (some 7) else (if (l0.length : Int) < 32 then (some 5) else (if (l0.length : Int) = 32 then (some 6) else (some 7))))) else (if (l0.length : Int) < t154 then (some 9) else (if (l0.length : Int) < (wrap64 (t154 + 15)) then (some 10) else (if (l0.length : Int) < (wrap64 (t154 + 18)) then (some (wrap64 ((wrap64 ((wrap64 (11 + (l0.length : Int))) - t154)) - 15))) else (if (l0.length : Int) < (wrap64 (t154 + 25)) then (some 14) else (some 15)))))) = some r := H
          have A6 := Aside0.mk A60
          clear A60
          by_cases c7 : (l0.length : Int) < t153
          · rw [if_pos c7] at H
            have c7b0 : decide ((l0.length : Int) < t153) = true := decide_eq_true c7
            clear c7
            by_cases c8 : (l0.length : Int) ≥ (wrap64 (t153 - 4))
            · rw [if_pos c8] at H
              have c8b0 : decide ((wrap64 (t153 - 4)) ≤ (l0.length : Int)) = true := decide_eq_true c8
              clear c8
              obtain rfl := Option.some.inj H
              go_enter Try.func87, Try.ntmps87
              go_wp2_with (first | ((with_reducible refine gate_callee (f := 102) rfl ?_); refine goesL_ (some 18) rfl rfl Try.func102 (by kernel_rfl) rfl #[.slice A0 l0.length c0] rfl (by (try simp only [List.map_toArray, List.map_cons, List.map_nil]); first | done | rfl | (simp only [List.length_drop, List.length_take]; rfl)) ?_; (with_reducible refine (spec_l1lay.calls k _ _ l0 t153 t154 _ ?side1 ?side2 A6.out).mono ?_); (case side1 => repeat (first | exact HR0.out | (with_reducible refine Kd.C_alloc ?_ _) | (with_reducible refine Kd.C_drewN ?_ _) | (with_reducible refine Kd.C_drew ?_))); (case side2 => exact HC0.out); rintro e w' ⟨rfl, ⟨nd, rfl⟩⟩; refine ⟨_, rfl, ?_⟩))
              go_ret
              exact ⟨by first | rfl | (simp; done) | (simp [*]; done), by repeat (first | exact Drawn0.refl _ | apply Drawn0.step)⟩
            · rw [if_neg c8] at H
              have c8b0 : decide ((wrap64 (t153 - 4)) ≤ (l0.length : Int)) = false := decide_eq_false c8
              clear c8
              by_cases c9 : t153 = 19
              · rw [if_pos c9] at H
                have c9b0 : (t153 == 19) = true := beq_iff_eq.mpr c9
                have c9b1 : (t153 != 19) = false := bne_eq_false_iff_eq.mpr c9
                clear c9
                obtain rfl := Option.some.inj H
                go_enter Try.func87, Try.ntmps87
                go_wp2_with (first | ((with_reducible refine gate_callee (f := 102) rfl ?_); refine goesL_ (some 18) rfl rfl Try.func102 (by kernel_rfl) rfl #[.slice A0 l0.length c0] rfl (by (try simp only [List.map_toArray, List.map_cons, List.map_nil]); first | done | rfl | (simp only [List.length_drop, List.length_take]; rfl)) ?_; (with_reducible refine (spec_l1lay.calls k _ _ l0 t153 t154 _ ?side1 ?side2 A6.out).mono ?_); (case side1 => repeat (first | exact HR0.out | (with_reducible refine Kd.C_alloc ?_ _) | (with_reducible refine Kd.C_drewN ?_ _) | (with_reducible refine Kd.C_drew ?_))); (case side2 => exact HC0.out); rintro e w' ⟨rfl, ⟨nd, rfl⟩⟩; refine ⟨_, rfl, ?_⟩))
                go_ret
                exact ⟨by first | rfl | (simp; done) | (simp [*]; done), by repeat (first | exact Drawn0.refl _ | apply Drawn0.step)⟩
              · rw [if_neg c9] at H
                have c9b0 : (t153 == 19) = false := beq_eq_false_iff_ne.mpr c9
                have c9b1 : (t153 != 19) = true := bne_iff_ne.mpr c9
                by_cases c10 : (l0.length : Int) < 32
                · rw [if_pos c10] at H
                  have c10b0 : decide ((l0.length : Int) < 32) = true := decide_eq_true c10
                  have c10b1 : decide (l0.length < 32) = true := decide_eq_true (by omega)
                  clear c10
                  obtain rfl := Option.some.inj H
                  go_enter Try.func87, Try.ntmps87
                  go_wp2_with (first | ((with_reducible refine gate_callee (f := 102) rfl ?_); refine goesL_ (some 18) rfl rfl Try.func102 (by kernel_rfl) rfl #[.slice A0 l0.length c0] rfl (by (try simp only [List.map_toArray, List.map_cons, List.map_nil]); first | done | rfl | (simp only [List.length_drop, List.length_take]; rfl)) ?_; (with_reducible refine (spec_l1lay.calls k _ _ l0 t153 t154 _ ?side1 ?side2 A6.out).mono ?_); (case side1 => repeat (first | exact HR0.out | (with_reducible refine Kd.C_alloc ?_ _) | (with_reducible refine Kd.C_drewN ?_ _) | (with_reducible refine Kd.C_drew ?_))); (case side2 => exact HC0.out); rintro e w' ⟨rfl, ⟨nd, rfl⟩⟩; refine ⟨_, rfl, ?_⟩))
                  go_ret
                  exact ⟨by first | rfl | (simp; done) | (simp [*]; done), by repeat (first | exact Drawn0.refl _ | apply Drawn0.step)⟩
                · rw [if_neg c10] at H
                  have c10b0 : decide ((l0.length : Int) < 32) = false := decide_eq_false c10
                  have c10b1 : decide (l0.length < 32) = false := decide_eq_false (by omega)
                  clear c10
                  by_cases c11 : (l0.length : Int) = 32
                  · rw [if_pos c11] at H
                    have c11b0 : ((l0.length : Int) == 32) = true := beq_iff_eq.mpr c11
                    have c11b1 : ((l0.length : Int) != 32) = false := bne_eq_false_iff_eq.mpr c11
                    clear c11
                    obtain rfl := Option.some.inj H
                    go_enter Try.func87, Try.ntmps87
                    go_wp2_with (first | ((with_reducible refine gate_callee (f := 102) rfl ?_); refine goesL_ (some 18) rfl rfl Try.func102 (by kernel_rfl) rfl #[.slice A0 l0.length c0] rfl (by (try simp only [List.map_toArray, List.map_cons, List.map_nil]); first | done | rfl | (simp only [List.length_drop, List.length_take]; rfl)) ?_; (with_reducible refine (spec_l1lay.calls k _ _ l0 t153 t154 _ ?side1 ?side2 A6.out).mono ?_); (case side1 => repeat (first | exact HR0.out | (with_reducible refine Kd.C_alloc ?_ _) | (with_reducible refine Kd.C_drewN ?_ _) | (with_reducible refine Kd.C_drew ?_))); (case side2 => exact HC0.out); rintro e w' ⟨rfl, ⟨nd, rfl⟩⟩; refine ⟨_, rfl, ?_⟩))
                    go_ret
                    exact ⟨by first | rfl | (simp; done) | (simp [*]; done), by repeat (first | exact Drawn0.refl _ | apply Drawn0.step)⟩
                  · rw [if_neg c11] at H
                    have c11b0 : ((l0.length : Int) == 32) = false := beq_eq_false_iff_ne.mpr c11
                    have c11b1 : ((l0.length : Int) != 32) = true := bne_iff_ne.mpr c11
                    obtain rfl := Option.some.inj H
                    go_enter Try.func87, Try.ntmps87
                    go_wp2_with (first | ((with_reducible refine gate_callee (f := 102) rfl ?_); refine goesL_ (some 18) rfl rfl Try.func102 (by kernel_rfl) rfl #[.slice A0 l0.length c0] rfl (by (try simp only [List.map_toArray, List.map_cons, List.map_nil]); first | done | rfl | (simp only [List.length_drop, List.length_take]; rfl)) ?_; (with_reducible refine (spec_l1lay.calls k _ _ l0 t153 t154 _ ?side1 ?side2 A6.out).mono ?_); (case side1 => repeat (first | exact HR0.out | (with_reducible refine Kd.C_alloc ?_ _) | (with_reducible refine Kd.C_drewN ?_ _) | (with_reducible refine Kd.C_drew ?_))); (case side2 => exact HC0.out); rintro e w' ⟨rfl, ⟨nd, rfl⟩⟩; refine ⟨_, rfl, ?_⟩))
                    go_ret
                    exact ⟨by first | rfl | (simp; done) | (simp [*]; done), by repeat (first | exact Drawn0.refl _ | apply Drawn0.step)⟩
          · rw [if_neg c7] at H
            have c7b0 : decide ((l0.length : Int) < t153) = false := decide_eq_false c7
            clear c7
            by_cases c12 : (l0.length : Int) < t154
            · rw [if_pos c12] at H
              have c12b0 : decide ((l0.length : Int) < t154) = true := decide_eq_true c12
              clear c12
              obtain rfl := Option.some.inj H
              go_enter Try.func87, Try.ntmps87
              go_wp2_with (first | ((with_reducible refine gate_callee (f := 102) rfl ?_); refine goesL_ (some 18) rfl rfl Try.func102 (by kernel_rfl) rfl #[.slice A0 l0.length c0] rfl (by (try simp only [List.map_toArray, List.map_cons, List.map_nil]); first | done | rfl | (simp only [List.length_drop, List.length_take]; rfl)) ?_; (with_reducible refine (spec_l1lay.calls k _ _ l0 t153 t154 _ ?side1 ?side2 A6.out).mono ?_); (case side1 => repeat (first | exact HR0.out | (with_reducible refine Kd.C_alloc ?_ _) | (with_reducible refine Kd.C_drewN ?_ _) | (with_reducible refine Kd.C_drew ?_))); (case side2 => exact HC0.out); rintro e w' ⟨rfl, ⟨nd, rfl⟩⟩; refine ⟨_, rfl, ?_⟩))
              go_ret
              exact ⟨by first | rfl | (simp; done) | (simp [*]; done), by repeat (first | exact Drawn0.refl _ | apply Drawn0.step)⟩
            · rw [if_neg c12] at H
              have c12b0 : decide ((l0.length : Int) < t154) = false := decide_eq_false c12
              clear c12
              by_cases c13 : (l0.length : Int) < (wrap64 (t154 + 15))
              · rw [if_pos c13] at H
                have c13b0 : decide ((l0.length : Int) < (wrap64 (t154 + 15))) = true := decide_eq_true c13
                clear c13
                obtain rfl := Option.some.inj H
                go_enter Try.func87, Try.ntmps87
                go_wp2_with (first | ((with_reducible refine gate_callee (f := 102) rfl ?_); refine goesL_ (some 18) rfl rfl Try.func102 (by kernel_rfl) rfl #[.slice A0 l0.length c0] rfl (by (try simp only [List.map_toArray, List.map_cons, List.map_nil]); first | done | rfl | (simp only [List.length_drop, List.length_take]; rfl)) ?_; (with_reducible refine (spec_l1lay.calls k _ _ l0 t153 t154 _ ?side1 ?side2 A6.out).mono ?_); (case side1 => repeat (first | exact HR0.out | (with_reducible refine Kd.C_alloc ?_ _) | (with_reducible refine Kd.C_drewN ?_ _) | (with_reducible refine Kd.C_drew ?_))); (case side2 => exact HC0.out); rintro e w' ⟨rfl, ⟨nd, rfl⟩⟩; refine ⟨_, rfl, ?_⟩))
                go_ret
                exact ⟨by first | rfl | (simp; done) | (simp [*]; done), by repeat (first | exact Drawn0.refl _ | apply Drawn0.step)⟩
              · rw [if_neg c13] at H
                have c13b0 : decide ((l0.length : Int) < (wrap64 (t154 + 15))) = false := decide_eq_false c13
                clear c13
                by_cases c14 : (l0.length : Int) < (wrap64 (t154 + 18))
                · rw [if_pos c14] at H
                  have c14b0 : decide ((l0.length : Int) < (wrap64 (t154 + 18))) = true := decide_eq_true c14
                  clear c14
                  obtain rfl := Option.some.inj H
                  go_enter Try.func87, Try.ntmps87
                  go_wp2_with (first | ((with_reducible refine gate_callee (f := 102) rfl ?_); refine goesL_ (some 18) rfl rfl Try.func102 (by kernel_rfl) rfl #[.slice A0 l0.length c0] rfl (by (try simp only [List.map_toArray, List.map_cons, List.map_nil]); first | done | rfl | (simp only [List.length_drop, List.length_take]; rfl)) ?_; (with_reducible refine (spec_l1lay.calls k _ _ l0 t153 t154 _ ?side1 ?side2 A6.out).mono ?_); (case side1 => repeat (first | exact HR0.out | (with_reducible refine Kd.C_alloc ?_ _) | (with_reducible refine Kd.C_drewN ?_ _) | (with_reducible refine Kd.C_drew ?_))); (case side2 => exact HC0.out); rintro e w' ⟨rfl, ⟨nd, rfl⟩⟩; refine ⟨_, rfl, ?_⟩))
                  go_ret
                  exact ⟨by first | rfl | (simp; done) | (simp [*]; done), by repeat (first | exact Drawn0.refl _ | apply Drawn0.step)⟩
                · rw [if_neg c14] at H
                  have c14b0 : decide ((l0.length : Int) < (wrap64 (t154 + 18))) = false := decide_eq_false c14
                  clear c14
                  by_cases c15 : (l0.length : Int) < (wrap64 (t154 + 25))
                  · rw [if_pos c15] at H
                    have c15b0 : decide ((l0.length : Int) < (wrap64 (t154 + 25))) = true := decide_eq_true c15
                    clear c15
                    obtain rfl := Option.some.inj H
                    go_enter Try.func87, Try.ntmps87
                    go_wp2_with (first | ((with_reducible refine gate_callee (f := 102) rfl ?_); refine goesL_ (some 18) rfl rfl Try.func102 (by kernel_rfl) rfl #[.slice A0 l0.length c0] rfl (by (try simp only [List.map_toArray, List.map_cons, List.map_nil]); first | done | rfl | (simp only [List.length_drop, List.length_take]; rfl)) ?_; (with_reducible refine (spec_l1lay.calls k _ _ l0 t153 t154 _ ?side1 ?side2 A6.out).mono ?_); (case side1 => repeat (first | exact HR0.out | (with_reducible refine Kd.C_alloc ?_ _) | (with_reducible refine Kd.C_drewN ?_ _) | (with_reducible refine Kd.C_drew ?_))); (case side2 => exact HC0.out); rintro e w' ⟨rfl, ⟨nd, rfl⟩⟩; refine ⟨_, rfl, ?_⟩))
                    go_ret
                    exact ⟨by first | rfl | (simp; done) | (simp [*]; done), by repeat (first | exact Drawn0.refl _ | apply Drawn0.step)⟩
                  · rw [if_neg c15] at H
                    have c15b0 : decide ((l0.length : Int) < (wrap64 (t154 + 25))) = false := decide_eq_false c15
                    clear c15
                    obtain rfl := Option.some.inj H
                    go_enter Try.func87, Try.ntmps87
                    go_wp2_with (first | ((with_reducible refine gate_callee (f := 102) rfl ?_); refine goesL_ (some 18) rfl rfl Try.func102 (by kernel_rfl) rfl #[.slice A0 l0.length c0] rfl (by (try simp only [List.map_toArray, List.map_cons, List.map_nil]); first | done | rfl | (simp only [List.length_drop, List.length_take]; rfl)) ?_; (with_reducible refine (spec_l1lay.calls k _ _ l0 t153 t154 _ ?side1 ?side2 A6.out).mono ?_); (case side1 => repeat (first | exact HR0.out | (with_reducible refine Kd.C_alloc ?_ _) | (with_reducible refine Kd.C_drewN ?_ _) | (with_reducible refine Kd.C_drew ?_))); (case side2 => exact HC0.out); rintro e w' ⟨rfl, ⟨nd, rfl⟩⟩; refine ⟨_, rfl, ?_⟩))
                    go_ret
                    exact ⟨by first | rfl | (simp; done) | (simp [*]; done), by repeat (first | exact Drawn0.refl _ | apply Drawn0.step)⟩
end Go.Proofs.Ytdoclpgciadjaaa.P
