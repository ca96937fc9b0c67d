import Derived.Test.YtdoclpgciadjaaaQFnExactJudge0
import Derived.Test.YtdoclpgciadjaaaQFnExactJudge2

namespace Go.Proofs.Ytdoclpgciadjaaa.P
open Go.RowKit Go.Proofs.YtdoclpgciadjaaaW.PrintWords Go.Proofs.YtdoclpgciadjaaaW.PrintLast Go.Proofs.YtdoclpgciadjaaaW.PrintMore
attribute [local go_sem] max2_int min2_int max_two min_two max_three min_three max_four min_four
set_option linter.unusedVariables false
set_option linter.unusedSimpArgs false

/-! ### spec_l1lay: function 102 -/
mutual
def spec_l1lay.j0 : Nat → List Int → Int → Option (Int × Int)
  | 0, _, _ => none
  | k + 1, x0, x4 => if (x0.length : Int) < x4 then (some (x4, 0)) else (if 12 < (x0.length : Int) then (if x4 = 39 then (if 32 < (x0.length : Int) then (spec_l1lay.j1 k x0 x4 ((rd x0 32) == 49)) else (none)) else (spec_l1lay.j1 k x0 x4 ((rd x0 12) == 49))) else (none))
def spec_l1lay.j1 : Nat → List Int → Int → Bool → Option (Int × Int)
  | 0, _, _, _ => none
  | k + 1, x0, x4, x5 => if 0 ≤ (wrap64 (x4 - 4)) then (if (wrap64 (x4 - 4)) ≤ x4 then (if x4 ≤ (x0.length : Int) then ((spec_l1val.f k (strOfNums ((x0.take (x4 : Int).toNat).drop ((wrap64 (x4 - 4)) : Int).toNat))).bind fun t250 => (if t250 > 8 then (if x5 = true then (some (x4, wrap64 (x4 + (8 * 0)))) else (some (x4, wrap64 (x4 + (8 * 8))))) else (if x5 = true then (some (x4, wrap64 (x4 + (8 * 0)))) else (some (x4, wrap64 (x4 + (wrap64 (8 * t250)))))))) else (none)) else (none)) else (none)
end
def spec_l1lay.f (k : Nat) (l0 : List Int) : Option (Int × Int) := if (l0.length : Int) < 14 then (some (0, 0)) else (if 13 < (l0.length : Int) then (if (rd l0 13) = 49 then (spec_l1lay.j0 k l0 39) else (spec_l1lay.j0 k l0 19)) else (none))
theorem spec_l1lay.mono_l : ∀ k, (∀ y0 y1, LeO (spec_l1lay.j0 k y0 y1) (spec_l1lay.j0 (k + 1) y0 y1)) ∧ (∀ y0 y1 y2, LeO (spec_l1lay.j1 k y0 y1 y2) (spec_l1lay.j1 (k + 1) y0 y1 y2))
  | 0 => ⟨fun _ _ r h => by simp [spec_l1lay.j0] at h, fun _ _ _ r h => by simp [spec_l1lay.j1] at h⟩
  | k + 1 => by
    obtain ⟨ih0, ih1⟩ := spec_l1lay.mono_l k
    refine ⟨?_, ?_⟩
    · intro y0 y1
      unfold spec_l1lay.j0
      repeat' first
      | (with_reducible exact ih0 _ _)
      | (with_reducible exact ih1 _ _ _)
      | (with_reducible exact spec_l1val.mono _ _)
      | (with_reducible exact LeO.refl _)
      | (with_reducible exact LeO.none _)
      | (with_reducible refine LeO.ite ?_ ?_)
      | (with_reducible refine LeO.bind ?_ (fun _ => ?_))
      | exact ih0 _ _
      | exact ih1 _ _ _
      | exact spec_l1val.mono _ _
      | exact LeO.none _
      | refine LeO.ite ?_ ?_
      | refine LeO.bind ?_ (fun _ => ?_)
    · intro y0 y1 y2
      unfold spec_l1lay.j1
      repeat' first
      | (with_reducible exact ih0 _ _)
      | (with_reducible exact ih1 _ _ _)
      | (with_reducible exact spec_l1val.mono _ _)
      | (with_reducible exact LeO.refl _)
      | (with_reducible exact LeO.none _)
      | (with_reducible refine LeO.ite ?_ ?_)
      | (with_reducible refine LeO.bind ?_ (fun _ => ?_))
      | exact ih0 _ _
      | exact ih1 _ _ _
      | exact spec_l1val.mono _ _
      | exact LeO.none _
      | refine LeO.ite ?_ ?_
      | refine LeO.bind ?_ (fun _ => ?_)
theorem spec_l1lay.mono : ∀ a0 k, LeO (spec_l1lay.f k a0) (spec_l1lay.f (k + 1) a0) := by
  intro a0 k
  obtain ⟨ih0, ih1⟩ := spec_l1lay.mono_l k
  unfold spec_l1lay.f
  repeat' first
      | (with_reducible exact ih0 _ _)
      | (with_reducible exact ih1 _ _ _)
      | (with_reducible exact spec_l1val.mono _ _)
      | (with_reducible exact LeO.refl _)
      | (with_reducible exact LeO.none _)
      | (with_reducible refine LeO.ite ?_ ?_)
      | (with_reducible refine LeO.bind ?_ (fun _ => ?_))
      | exact ih0 _ _
      | exact ih1 _ _ _
      | exact spec_l1val.mono _ _
      | exact LeO.none _
      | refine LeO.ite ?_ ?_
      | refine LeO.bind ?_ (fun _ => ?_)
set_option maxHeartbeats 8000000 in
set_option maxRecDepth 100000 in
theorem spec_l1lay.calls (k : Nat) (A0 : Option Addr) (c0 : Nat) (l0 : List Int) (r1 : Int) (r2 : Int) (w : World) (hr0 : Kd.C (Kd.int .u8) w A0 l0.length l0) (hc0 : l0.length ≤ c0) (h : spec_l1lay.f k l0 = some (r1, r2)) :
    Calls Try.prog 102 #[.slice A0 l0.length c0] w fun e w' => e = .returned (.tuple #[.int .i64 r1, .int .i64 r2]) ∧ Drawn0 w w' := by
  have HR0 := Aside0.mk hr0
  have HC0 := Aside0.mk hc0
  clear hr0 hc0
  have H : (if (l0.length : Int) < 14 then (some (0, 0)) else (if 13 < (l0.length : Int) then (if (rd l0 13) = 49 then (spec_l1lay.j0 k l0 39) else (spec_l1lay.j0 k l0 19)) else (none))) = some (r1, r2) := h
  clear h
  by_cases c2 : (l0.length : Int) < 14
  · rw [if_pos c2] at H
    have c2b0 : decide ((l0.length : Int) < 14) = true := decide_eq_true c2
    have c2b1 : decide (l0.length < 14) = true := decide_eq_true (by omega)
    clear c2
    simp only [Option.some.injEq, Prod.mk.injEq] at H
    obtain ⟨rfl, rfl⟩ := H
    go_enter Try.func102, Try.ntmps102
    go_wp2
    go_ret2
    exact ⟨by first | rfl | (simp; done) | (simp [*]; done), by repeat (first | exact Drawn0.refl _ | apply Drawn0.step)⟩
  · rw [if_neg c2] at H
    have c2b0 : decide ((l0.length : Int) < 14) = false := decide_eq_false c2
    have c2b1 : decide (l0.length < 14) = false := decide_eq_false (by omega)
    clear c2
    by_cases c3 : 13 < (l0.length : Int)
    · rw [if_pos c3] at H
      have c3b0 : decide (13 < (l0.length : Int)) = true := decide_eq_true c3
      have c3b1 : decide (13 < l0.length) = true := decide_eq_true (by omega)
      clear c3
      have HC4 := Aside0.mk H
      clear H
      have p246 : 0 ≤ (13 : Int) := (by omega)
      have q246 : 13 < (l0.length : Int) := of_decide_eq_true (by first | (with_reducible assumption) | assumption)
      obtain ⟨ad246, e246, hx246_0⟩ := Kd.at_int HR0.out 13 p246 q246
      cases e246
      (try simp only [show (13 : Int).toNat = 13 from rfl, Nat.reduceMul, Nat.reduceEqDiff, Go.Addr.add, ↓reduceIte] at hx246_0)
      have qi246 : (13 < l0.length) = True := eq_true (by omega)
      (try rw [show ((13 : Int)).toNat = 13 from rfl] at hx246_0)
      replace p246 := eq_true p246
      replace q246 := eq_true q246
      go_enter Try.func102, Try.ntmps102
      go_upto_if 13 with (fail)
      go_cut [4] (fun v4 wc => ∃ (kq : Nat) (x4_3 : Int), v4 = .int .i64 x4_3 ∧ Aside0 (spec_l1lay.j0 kq l0 x4_3 = some (r1, r2)) ∧ Aside0 (kq ≤ k) ∧ Drawn0 w wc)
      case first =>
        have H := HC4.out
        clear HC4
        by_cases c5 : (rd l0 13) = 49
        · rw [if_pos c5] at H
          have c5b0 : ((rd l0 13) == 49) = true := beq_iff_eq.mpr c5
          have c5b1 : ((rd l0 13) != 49) = false := bne_eq_false_iff_eq.mpr c5
          clear c5
          (first | rw [c5b0] | (simp only [i64_w, i32_w]; rw [c5b0]) | skip)
          have H' := Aside0.mk H
          clear H
          go_wp2
          go_meet
          case rel => exact ⟨_, (39), (by first | rfl | (simp; done) | (simp [*]; done)), H', ⟨by first | omega | exact Nat.le_refl _⟩, by repeat (first | exact Drawn0.refl _ | apply Drawn0.step)⟩
        · rw [if_neg c5] at H
          have c5b0 : ((rd l0 13) == 49) = false := beq_eq_false_iff_ne.mpr c5
          have c5b1 : ((rd l0 13) != 49) = true := bne_iff_ne.mpr c5
          (first | rw [c5b0] | (simp only [i64_w, i32_w]; rw [c5b0]) | skip)
          have H' := Aside0.mk H
          clear H
          go_wp2
          go_meet
          case rel => exact ⟨_, (19), (by first | rfl | (simp; done) | (simp [*]; done)), H', ⟨by first | omega | exact Nat.le_refl _⟩, by repeat (first | exact Drawn0.refl _ | apply Drawn0.step)⟩
      case rest =>
        clear HC4
        try clear c1
        try clear c2
        try clear c2b0
        try clear c2b1
        try clear p2
        try clear q2
        try clear hx2
        try clear qi2
        try clear c3
        try clear c3b0
        try clear c3b1
        try clear c5
        try clear c5b0
        try clear c5b1
        try clear hx246_0
        try clear p246
        try clear q246
        obtain ⟨kq, x4_3, rfl, HA, HJ3, ⟨mc3, rfl⟩⟩ := hcut
        cases kq with
        | zero => exact absurd HA.out (by simp [spec_l1lay.j0])
        | succ kj3 =>
          have H := HA.out
          clear HA
          simp only [spec_l1lay.j0] at H
          by_cases c6 : (l0.length : Int) < x4_3
          · rw [if_pos c6] at H
            have c6b0 : decide ((l0.length : Int) < x4_3) = true := decide_eq_true c6
            clear c6
            simp only [Option.some.injEq, Prod.mk.injEq] at H
            obtain ⟨rfl, rfl⟩ := H
            go_wp2
            go_ret2
            exact ⟨by first | rfl | (simp; done) | (simp [*]; done), by repeat (first | exact Drawn0.refl _ | apply Drawn0.step)⟩
          · rw [if_neg c6] at H
            have c6b0 : decide ((l0.length : Int) < x4_3) = false := decide_eq_false c6
            clear c6
            by_cases c7 : 12 < (l0.length : Int)
            · rw [if_pos c7] at H
              have c7b0 : decide (12 < (l0.length : Int)) = true := decide_eq_true c7
              have c7b1 : decide (12 < l0.length) = true := decide_eq_true (by omega)
              clear c7
              have HC8 := Aside0.mk H
              clear H
              have p247 : 0 ≤ (12 : Int) := (by omega)
              have q247 : 12 < (l0.length : Int) := of_decide_eq_true (by first | (with_reducible assumption) | assumption)
              obtain ⟨ad247, e247, hx247_0⟩ := Kd.at_int HR0.out 12 p247 q247
              obtain rfl : ad246 = ad247 := (by injection e247)
              (try simp only [show (12 : Int).toNat = 12 from rfl, Nat.reduceMul, Nat.reduceEqDiff, Go.Addr.add, ↓reduceIte] at hx247_0)
              have qi247 : (12 < l0.length) = True := eq_true (by omega)
              (try rw [show ((12 : Int)).toNat = 12 from rfl] at hx247_0)
              replace p247 := eq_true p247
              replace q247 := eq_true q247
              go_upto_if 24 with (fail)
              go_cut [5] (fun v5 wc => ∃ (kq : Nat) (x5_7 : Bool), v5 = .bool x5_7 ∧ Aside0 (spec_l1lay.j1 kq l0 x4_3 x5_7 = some (r1, r2)) ∧ Aside0 (kq ≤ kj3) ∧ Drawn0 w wc)
              case first =>
                have H := HC8.out
                clear HC8
                by_cases c9 : x4_3 = 39
                · rw [if_pos c9] at H
                  have c9b0 : (x4_3 == 39) = true := beq_iff_eq.mpr c9
                  have c9b1 : (x4_3 != 39) = false := bne_eq_false_iff_eq.mpr c9
                  clear c9
                  (first | rw [c9b0] | (simp only [i64_w, i32_w]; rw [c9b0]) | skip)
                  by_cases c10 : 32 < (l0.length : Int)
                  · rw [if_pos c10] at H
                    have c10b0 : decide (32 < (l0.length : Int)) = true := decide_eq_true c10
                    have c10b1 : decide (32 < l0.length) = true := decide_eq_true (by omega)
                    clear c10
                    have H' := Aside0.mk H
                    clear H
                    have p248 : 0 ≤ (32 : Int) := (by omega)
                    have q248 : 32 < (l0.length : Int) := of_decide_eq_true (by first | (with_reducible assumption) | assumption)
                    obtain ⟨ad248, e248, hx248_0⟩ := Kd.at_int HR0.out 32 p248 q248
                    obtain rfl : ad246 = ad248 := (by injection e248)
                    (try simp only [show (32 : Int).toNat = 32 from rfl, Nat.reduceMul, Nat.reduceEqDiff, Go.Addr.add, ↓reduceIte] at hx248_0)
                    have qi248 : (32 < l0.length) = True := eq_true (by omega)
                    (try rw [show ((32 : Int)).toNat = 32 from rfl] at hx248_0)
                    replace p248 := eq_true p248
                    replace q248 := eq_true q248
                    go_wp2
                    go_meet
                    case rel => exact ⟨_, (((rd l0 32) == 49)), (by first | rfl | (simp; done) | (simp [*]; done)), H', ⟨by have := HJ3.out; first | omega | exact Nat.le_refl _⟩, by repeat (first | exact Drawn0.refl _ | apply Drawn0.step)⟩
                  · rw [if_neg c10] at H
                    exact absurd H (by simp)
                · rw [if_neg c9] at H
                  have c9b0 : (x4_3 == 39) = false := beq_eq_false_iff_ne.mpr c9
                  have c9b1 : (x4_3 != 39) = true := bne_iff_ne.mpr c9
                  (first | rw [c9b0] | (simp only [i64_w, i32_w]; rw [c9b0]) | skip)
                  have H' := Aside0.mk H
                  clear H
                  go_wp2
                  go_meet
                  case rel => exact ⟨_, (((rd l0 12) == 49)), (by first | rfl | (simp; done) | (simp [*]; done)), H', ⟨by have := HJ3.out; first | omega | exact Nat.le_refl _⟩, by repeat (first | exact Drawn0.refl _ | apply Drawn0.step)⟩
              case rest =>
                clear HC8
                try clear c1
                try clear c2
                try clear c2b0
                try clear c2b1
                try clear p2
                try clear q2
                try clear hx2
                try clear qi2
                try clear c3
                try clear c3b0
                try clear c3b1
                try clear c5
                try clear c5b0
                try clear c5b1
                try clear c6
                try clear c6b0
                try clear c7
                try clear c7b0
                try clear c7b1
                try clear c9
                try clear c9b0
                try clear c9b1
                try clear c10
                try clear c10b0
                try clear c10b1
                try clear hx246_0
                try clear hx247_0
                try clear hx248_0
                try clear p2
                try clear p246
                try clear p247
                try clear p248
                try clear q2
                try clear q246
                try clear q247
                try clear q248
                obtain ⟨kq, x5_7, rfl, HA, HJ7, ⟨mc7, rfl⟩⟩ := hcut
                cases kq with
                | zero => exact absurd HA.out (by simp [spec_l1lay.j1])
                | succ kj7 =>
                  have H := HA.out
                  clear HA
                  simp only [spec_l1lay.j1] at H
                  obtain ⟨ji11, hji11⟩ : ∃ j_ : Int, (wrap64 (x4_3 - 4)) = j_ := ⟨_, rfl⟩
                  replace H : (if 0 ≤ (ji11) then (if (ji11) ≤ x4_3 then (if x4_3 ≤ (l0.length : Int) then ((spec_l1val.f kj7 (strOfNums ((l0.take (x4_3 : Int).toNat).drop ((ji11) : Int).toNat))).bind fun t250 => (if t250 > 8 then (if x5_7 = true then (some (x4_3, wrap64 (x4_3 + (8 * 0)))) else (some (x4_3, wrap64 (x4_3 + (8 * 8))))) else (if x5_7 = true then (some (x4_3, wrap64 (x4_3 + (8 * 0)))) else (some (x4_3, wrap64 (x4_3 + (wrap64 (8 * t250)))))))) else (none)) else (none)) else (none)) = some (r1, r2) := by first | (rw [hji11] at H; exact H) | (simp only [hji11] at H ⊢; exact H)
                  have hji11w : (IntKind.i64.wrap (x4_3 - 4)) = ji11 := (i64_w _).trans hji11
                  by_cases c12 : 0 ≤ (ji11)
                  · rw [if_pos c12] at H
                    have c12b0 := eq_true c12
                    have c12b1 : decide (0 ≤ (ji11)) = true := decide_eq_true c12
                    clear c12
                    by_cases c13 : (ji11) ≤ x4_3
                    · rw [if_pos c13] at H
                      have c13b0 := eq_true c13
                      have c13b1 : decide ((ji11) ≤ x4_3) = true := decide_eq_true c13
                      clear c13
                      by_cases c14 : x4_3 ≤ (l0.length : Int)
                      · rw [if_pos c14] at H
                        have c14b0 := eq_true c14
                        have c14b1 : decide (x4_3 ≤ (l0.length : Int)) = true := decide_eq_true c14
                        clear c14
                        replace H := Option.bind_eq_some_iff.mp H
                        obtain ⟨t250, A150, H⟩ := H
                        replace H : (if t250 > 8 then (if x5_7 = true then (some (x4_3, wrap64 (x4_3 + (8 * 0)))) else (some (x4_3, wrap64 (x4_3 + (8 * 8))))) else (if x5_7 = true then (some (x4_3, wrap64 (x4_3 + (8 * 0)))) else (some (x4_3, wrap64 (x4_3 + (wrap64 (8 * t250))))))) = some (r1, r2) := H
                        have A15 := Aside0.mk A150
                        clear A150
                        by_cases c16 : t250 > 8
                        · rw [if_pos c16] at H
                          have c16b0 : decide (8 < t250) = true := decide_eq_true c16
                          clear c16
                          by_cases c17 : x5_7 = true
                          · subst c17
                            have H1 : (some (x4_3, wrap64 (x4_3 + (8 * 0)))) = some (r1, r2) := by rw [if_pos rfl] at H; exact H
                            clear H
                            have H := H1
                            clear H1
                            simp only [Option.some.injEq, Prod.mk.injEq] at H
                            obtain ⟨rfl, rfl⟩ := H
                            obtain ⟨i018, hi018, _, hsz18, _⟩ := info_parts info5
                            obtain ⟨A18, hcut18, hA18, hC18⟩ := print_mid_of (P := Try.prog) (Value.int .u8) 0 22 5 .i64 .i64 Try.underlying22 hi018 hsz18 (some ad246) c0 l0 (ji11) x4_3 (of_decide_eq_true (by first | (with_reducible assumption) | assumption)) (by first | omega | exact of_decide_eq_true (by first | (with_reducible assumption) | assumption)) (of_decide_eq_true (by first | (with_reducible assumption) | assumption)) HC0.out
                            have HR249 := Aside0.mk (Kd.C_of_reads (h1 := fun _ => rfl) (hA18 _ (Kd.reads_of_C HR0.out)))
                            have HC249 := Aside0.mk hC18
                            clear hA18 hC18 hi018 hsz18
                            have hl19z : (List.drop ji11.toNat (List.take x4_3.toNat l0)).length = x4_3.toNat - ji11.toNat := by rw [List.length_drop, List.length_take, Nat.min_eq_left (by have := of_decide_eq_true c14b1; omega)]
                            have hcv19 := Kd.C_string (w := w.drewN mc7) (P := Try.prog) (A := A18) (c := (c0 - (ji11).toNat)) Try.underlying22 Try.underlying5 Try.underlying9 HR249.out
                            rw [hl19z] at hcv19
                            clear hl19z
                            go_wp2_with (first | ((with_reducible refine gate_callee (f := 103) rfl ?_); refine goesL_ (some 35) rfl rfl Try.func103 (by kernel_rfl) rfl #[.string (strOfNums ((l0.take (x4_3 : Int).toNat).drop ((ji11) : Int).toNat))] rfl (by (try simp only [List.map_toArray, List.map_cons, List.map_nil]); first | done | (simp only [hji11]; rfl) | rfl | (simp only [List.length_drop, List.length_take]; rfl)) ?_; (with_reducible refine (spec_l1val.calls kj7 (strOfNums ((l0.take (x4_3 : Int).toNat).drop ((ji11) : Int).toNat)) t250 _ A15.out).mono ?_); rintro e w' ⟨rfl, ⟨nd, rfl⟩⟩; refine ⟨_, rfl, ?_⟩))
                            go_ret2
                            exact ⟨by first | rfl | (simp; done) | (simp only [← hji11] <;> (first | rfl | simp)) | (simp [*]; done), by repeat (first | exact Drawn0.refl _ | apply Drawn0.step)⟩
                          · replace c17 := Bool.eq_false_iff.mpr c17
                            subst c17
                            have H1 : (some (x4_3, wrap64 (x4_3 + (8 * 8)))) = some (r1, r2) := by rw [if_neg (show ¬ (false = true) by decide)] at H; exact H
                            clear H
                            have H := H1
                            clear H1
                            simp only [Option.some.injEq, Prod.mk.injEq] at H
                            obtain ⟨rfl, rfl⟩ := H
                            obtain ⟨i020, hi020, _, hsz20, _⟩ := info_parts info5
                            obtain ⟨A20, hcut20, hA20, hC20⟩ := print_mid_of (P := Try.prog) (Value.int .u8) 0 22 5 .i64 .i64 Try.underlying22 hi020 hsz20 (some ad246) c0 l0 (ji11) x4_3 (of_decide_eq_true (by first | (with_reducible assumption) | assumption)) (by first | omega | exact of_decide_eq_true (by first | (with_reducible assumption) | assumption)) (of_decide_eq_true (by first | (with_reducible assumption) | assumption)) HC0.out
                            have HR249 := Aside0.mk (Kd.C_of_reads (h1 := fun _ => rfl) (hA20 _ (Kd.reads_of_C HR0.out)))
                            have HC249 := Aside0.mk hC20
                            clear hA20 hC20 hi020 hsz20
                            have hl21z : (List.drop ji11.toNat (List.take x4_3.toNat l0)).length = x4_3.toNat - ji11.toNat := by rw [List.length_drop, List.length_take, Nat.min_eq_left (by have := of_decide_eq_true c14b1; omega)]
                            have hcv21 := Kd.C_string (w := w.drewN mc7) (P := Try.prog) (A := A20) (c := (c0 - (ji11).toNat)) Try.underlying22 Try.underlying5 Try.underlying9 HR249.out
                            rw [hl21z] at hcv21
                            clear hl21z
                            go_wp2_with (first | ((with_reducible refine gate_callee (f := 103) rfl ?_); refine goesL_ (some 35) rfl rfl Try.func103 (by kernel_rfl) rfl #[.string (strOfNums ((l0.take (x4_3 : Int).toNat).drop ((ji11) : Int).toNat))] rfl (by (try simp only [List.map_toArray, List.map_cons, List.map_nil]); first | done | (simp only [hji11]; rfl) | rfl | (simp only [List.length_drop, List.length_take]; rfl)) ?_; (with_reducible refine (spec_l1val.calls kj7 (strOfNums ((l0.take (x4_3 : Int).toNat).drop ((ji11) : Int).toNat)) t250 _ A15.out).mono ?_); rintro e w' ⟨rfl, ⟨nd, rfl⟩⟩; refine ⟨_, rfl, ?_⟩))
                            go_ret2
                            exact ⟨by first | rfl | (simp; done) | (simp only [← hji11] <;> (first | rfl | simp)) | (simp [*]; done), by repeat (first | exact Drawn0.refl _ | apply Drawn0.step)⟩
                        · rw [if_neg c16] at H
                          have c16b0 : decide (8 < t250) = false := decide_eq_false c16
                          clear c16
                          by_cases c22 : x5_7 = true
                          · subst c22
                            have H1 : (some (x4_3, wrap64 (x4_3 + (8 * 0)))) = some (r1, r2) := by rw [if_pos rfl] at H; exact H
                            clear H
                            have H := H1
                            clear H1
                            simp only [Option.some.injEq, Prod.mk.injEq] at H
                            obtain ⟨rfl, rfl⟩ := H
                            obtain ⟨i023, hi023, _, hsz23, _⟩ := info_parts info5
                            obtain ⟨A23, hcut23, hA23, hC23⟩ := print_mid_of (P := Try.prog) (Value.int .u8) 0 22 5 .i64 .i64 Try.underlying22 hi023 hsz23 (some ad246) c0 l0 (ji11) x4_3 (of_decide_eq_true (by first | (with_reducible assumption) | assumption)) (by first | omega | exact of_decide_eq_true (by first | (with_reducible assumption) | assumption)) (of_decide_eq_true (by first | (with_reducible assumption) | assumption)) HC0.out
                            have HR249 := Aside0.mk (Kd.C_of_reads (h1 := fun _ => rfl) (hA23 _ (Kd.reads_of_C HR0.out)))
                            have HC249 := Aside0.mk hC23
                            clear hA23 hC23 hi023 hsz23
                            have hl24z : (List.drop ji11.toNat (List.take x4_3.toNat l0)).length = x4_3.toNat - ji11.toNat := by rw [List.length_drop, List.length_take, Nat.min_eq_left (by have := of_decide_eq_true c14b1; omega)]
                            have hcv24 := Kd.C_string (w := w.drewN mc7) (P := Try.prog) (A := A23) (c := (c0 - (ji11).toNat)) Try.underlying22 Try.underlying5 Try.underlying9 HR249.out
                            rw [hl24z] at hcv24
                            clear hl24z
                            go_wp2_with (first | ((with_reducible refine gate_callee (f := 103) rfl ?_); refine goesL_ (some 35) rfl rfl Try.func103 (by kernel_rfl) rfl #[.string (strOfNums ((l0.take (x4_3 : Int).toNat).drop ((ji11) : Int).toNat))] rfl (by (try simp only [List.map_toArray, List.map_cons, List.map_nil]); first | done | (simp only [hji11]; rfl) | rfl | (simp only [List.length_drop, List.length_take]; rfl)) ?_; (with_reducible refine (spec_l1val.calls kj7 (strOfNums ((l0.take (x4_3 : Int).toNat).drop ((ji11) : Int).toNat)) t250 _ A15.out).mono ?_); rintro e w' ⟨rfl, ⟨nd, rfl⟩⟩; refine ⟨_, rfl, ?_⟩))
                            go_ret2
                            exact ⟨by first | rfl | (simp; done) | (simp only [← hji11] <;> (first | rfl | simp)) | (simp [*]; done), by repeat (first | exact Drawn0.refl _ | apply Drawn0.step)⟩
                          · replace c22 := Bool.eq_false_iff.mpr c22
                            subst c22
                            have H1 : (some (x4_3, wrap64 (x4_3 + (wrap64 (8 * t250))))) = some (r1, r2) := by rw [if_neg (show ¬ (false = true) by decide)] at H; exact H
                            clear H
                            have H := H1
                            clear H1
                            simp only [Option.some.injEq, Prod.mk.injEq] at H
                            obtain ⟨rfl, rfl⟩ := H
                            obtain ⟨i025, hi025, _, hsz25, _⟩ := info_parts info5
                            obtain ⟨A25, hcut25, hA25, hC25⟩ := print_mid_of (P := Try.prog) (Value.int .u8) 0 22 5 .i64 .i64 Try.underlying22 hi025 hsz25 (some ad246) c0 l0 (ji11) x4_3 (of_decide_eq_true (by first | (with_reducible assumption) | assumption)) (by first | omega | exact of_decide_eq_true (by first | (with_reducible assumption) | assumption)) (of_decide_eq_true (by first | (with_reducible assumption) | assumption)) HC0.out
                            have HR249 := Aside0.mk (Kd.C_of_reads (h1 := fun _ => rfl) (hA25 _ (Kd.reads_of_C HR0.out)))
                            have HC249 := Aside0.mk hC25
                            clear hA25 hC25 hi025 hsz25
                            have hl26z : (List.drop ji11.toNat (List.take x4_3.toNat l0)).length = x4_3.toNat - ji11.toNat := by rw [List.length_drop, List.length_take, Nat.min_eq_left (by have := of_decide_eq_true c14b1; omega)]
                            have hcv26 := Kd.C_string (w := w.drewN mc7) (P := Try.prog) (A := A25) (c := (c0 - (ji11).toNat)) Try.underlying22 Try.underlying5 Try.underlying9 HR249.out
                            rw [hl26z] at hcv26
                            clear hl26z
                            go_wp2_with (first | ((with_reducible refine gate_callee (f := 103) rfl ?_); refine goesL_ (some 35) rfl rfl Try.func103 (by kernel_rfl) rfl #[.string (strOfNums ((l0.take (x4_3 : Int).toNat).drop ((ji11) : Int).toNat))] rfl (by (try simp only [List.map_toArray, List.map_cons, List.map_nil]); first | done | (simp only [hji11]; rfl) | rfl | (simp only [List.length_drop, List.length_take]; rfl)) ?_; (with_reducible refine (spec_l1val.calls kj7 (strOfNums ((l0.take (x4_3 : Int).toNat).drop ((ji11) : Int).toNat)) t250 _ A15.out).mono ?_); rintro e w' ⟨rfl, ⟨nd, rfl⟩⟩; refine ⟨_, rfl, ?_⟩))
                            go_ret2
                            exact ⟨by first | rfl | (simp; done) | (simp only [← hji11] <;> (first | rfl | simp)) | (simp [*]; done), by repeat (first | exact Drawn0.refl _ | apply Drawn0.step)⟩
                      · rw [if_neg c14] at H
                        exact absurd H (by simp)
                    · rw [if_neg c13] at H
                      exact absurd H (by simp)
                  · rw [if_neg c12] at H
                    exact absurd H (by simp)
            · rw [if_neg c7] at H
              exact absurd H (by simp)
    · rw [if_neg c3] at H
      exact absurd H (by simp)

end Go.Proofs.Ytdoclpgciadjaaa.P

namespace Go.Proofs.Ytdoclpgciadjaaa.P
open Go.RowKit Go.Proofs.YtdoclpgciadjaaaW.PrintWords Go.Proofs.YtdoclpgciadjaaaW.PrintLast Go.Proofs.YtdoclpgciadjaaaW.PrintMore
attribute [local go_sem] max2_int min2_int max_two min_two max_three min_three max_four min_four
set_option linter.unusedVariables false
set_option linter.unusedSimpArgs false

/-! ### spec_l1field: function 87 -/
def spec_l1field.f (k : Nat) (l0 : List Int) : Option (Int) := if (l0.length : Int) = 0 then (some 1) else (if (l0.length : Int) < 12 then (some 2) else (if (l0.length : Int) = 12 then (some 3) else (if (l0.length : Int) = 13 then (some 4) else ((spec_l1lay.f k l0).bind fun bt251 => (if (l0.length : Int) < bt251.1 then (if (l0.length : Int) ≥ (wrap64 (bt251.1 - 4)) then (some 8) else (if bt251.1 = 19 then (some 7) else (if (l0.length : Int) < 32 then (some 5) else (if (l0.length : Int) = 32 then (some 6) else (some 7))))) else (if (l0.length : Int) < bt251.2 then (some 9) else (if (l0.length : Int) < (wrap64 (bt251.2 + 15)) then (some 10) else (if (l0.length : Int) < (wrap64 (bt251.2 + 18)) then (some (wrap64 ((wrap64 ((wrap64 (11 + (l0.length : Int))) - bt251.2)) - 15))) else (if (l0.length : Int) < (wrap64 (bt251.2 + 25)) then (some 14) else (some 15))))))))))
theorem spec_l1field.mono : ∀ a0 k, LeO (spec_l1field.f k a0) (spec_l1field.f (k + 1) a0) := by
  intro a0 k
  unfold spec_l1field.f
  repeat' first
      | (with_reducible exact spec_l1lay.mono _ _)
      | (with_reducible exact LeO.refl _)
      | (with_reducible exact LeO.none _)
      | (with_reducible refine LeO.ite ?_ ?_)
      | (with_reducible refine LeO.bind ?_ (fun _ => ?_))
      | exact spec_l1lay.mono _ _
      | exact LeO.none _
      | refine LeO.ite ?_ ?_
      | refine LeO.bind ?_ (fun _ => ?_)
set_option maxHeartbeats 8000000 in
set_option maxRecDepth 100000 in
theorem spec_l1field.calls (k : Nat) (A0 : Option Addr) (c0 : Nat) (l0 : List Int) (r : Int) (w : World) (hr0 : Kd.C (Kd.int .u8) w A0 l0.length l0) (hc0 : l0.length ≤ c0) (h : spec_l1field.f k l0 = some r) :
    Calls Try.prog 87 #[.slice A0 l0.length c0] w fun e w' => e = .returned (.int .i64 r) ∧ Drawn0 w w' := by
  have HR0 := Aside0.mk hr0
  have HC0 := Aside0.mk hc0
  clear hr0 hc0
  have H : (if (l0.length : Int) = 0 then (some 1) else (if (l0.length : Int) < 12 then (some 2) else (if (l0.length : Int) = 12 then (some 3) else (if (l0.length : Int) = 13 then (some 4) else ((spec_l1lay.f k l0).bind fun bt251 => (if (l0.length : Int) < bt251.1 then (if (l0.length : Int) ≥ (wrap64 (bt251.1 - 4)) then (some 8) else (if bt251.1 = 19 then (some 7) else (if (l0.length : Int) < 32 then (some 5) else (if (l0.length : Int) = 32 then (some 6) else (some 7))))) else (if (l0.length : Int) < bt251.2 then (some 9) else (if (l0.length : Int) < (wrap64 (bt251.2 + 15)) then (some 10) else (if (l0.length : Int) < (wrap64 (bt251.2 + 18)) then (some (wrap64 ((wrap64 ((wrap64 (11 + (l0.length : Int))) - bt251.2)) - 15))) else (if (l0.length : Int) < (wrap64 (bt251.2 + 25)) then (some 14) else (some 15))))))))))) = some r := h
  clear h
  by_cases c2 : (l0.length : Int) = 0
  · rw [if_pos c2] at H
    have c2b0 : ((l0.length : Int) == 0) = true := beq_iff_eq.mpr c2
    have c2b1 : ((l0.length : Int) != 0) = false := bne_eq_false_iff_eq.mpr c2
    clear c2
    obtain rfl := Option.some.inj H
    go_enter Try.func87, Try.ntmps87
    go_wp2
    go_ret
    exact ⟨by first | rfl | (simp; done) | (simp [*]; done), by repeat (first | exact Drawn0.refl _ | apply Drawn0.step)⟩
  · rw [if_neg c2] at H
    have c2b0 : ((l0.length : Int) == 0) = false := beq_eq_false_iff_ne.mpr c2
    have c2b1 : ((l0.length : Int) != 0) = true := bne_iff_ne.mpr c2
    have c2b2 : ¬ (l0 = []) := fun h_ => c2 (by rw [h_]; rfl)
    by_cases c3 : (l0.length : Int) < 12
    · rw [if_pos c3] at H
      have c3b0 : decide ((l0.length : Int) < 12) = true := decide_eq_true c3
      have c3b1 : decide (l0.length < 12) = true := decide_eq_true (by omega)
      clear c3
      obtain rfl := Option.some.inj H
      go_enter Try.func87, Try.ntmps87
      go_wp2
      go_ret
      exact ⟨by first | rfl | (simp; done) | (simp [*]; done), by repeat (first | exact Drawn0.refl _ | apply Drawn0.step)⟩
    · rw [if_neg c3] at H
      have c3b0 : decide ((l0.length : Int) < 12) = false := decide_eq_false c3
      have c3b1 : decide (l0.length < 12) = false := decide_eq_false (by omega)
      clear c3
      by_cases c4 : (l0.length : Int) = 12
      · rw [if_pos c4] at H
        have c4b0 : ((l0.length : Int) == 12) = true := beq_iff_eq.mpr c4
        have c4b1 : ((l0.length : Int) != 12) = false := bne_eq_false_iff_eq.mpr c4
        clear c4
        obtain rfl := Option.some.inj H
        go_enter Try.func87, Try.ntmps87
        go_wp2
        go_ret
        exact ⟨by first | rfl | (simp; done) | (simp [*]; done), by repeat (first | exact Drawn0.refl _ | apply Drawn0.step)⟩
      · rw [if_neg c4] at H
        have c4b0 : ((l0.length : Int) == 12) = false := beq_eq_false_iff_ne.mpr c4
        have c4b1 : ((l0.length : Int) != 12) = true := bne_iff_ne.mpr c4
        by_cases c5 : (l0.length : Int) = 13
        · rw [if_pos c5] at H
          have c5b0 : ((l0.length : Int) == 13) = true := beq_iff_eq.mpr c5
          have c5b1 : ((l0.length : Int) != 13) = false := bne_eq_false_iff_eq.mpr c5
          clear c5
          obtain rfl := Option.some.inj H
          go_enter Try.func87, Try.ntmps87
          go_wp2
          go_ret
          exact ⟨by first | rfl | (simp; done) | (simp [*]; done), by repeat (first | exact Drawn0.refl _ | apply Drawn0.step)⟩
        · rw [if_neg c5] at H
          have c5b0 : ((l0.length : Int) == 13) = false := beq_eq_false_iff_ne.mpr c5
          have c5b1 : ((l0.length : Int) != 13) = true := bne_iff_ne.mpr c5
          replace H := Option.bind_eq_some_iff.mp H
          obtain ⟨⟨t251, t252⟩, A60, H⟩ := H
          replace H : (if (l0.length : Int) < t251 then (if (l0.length : Int) ≥ (wrap64 (t251 - 4)) then (some 8) else (if t251 = 19 then (some 7) else (if (l0.length : Int) < 32 then (some 5) else (if (l0.length : Int) = 32 then (some 6) else (some 7))))) else (if (l0.length : Int) < t252 then (some 9) else (if (l0.length : Int) < (wrap64 (t252 + 15)) then (some 10) else (if (l0.length : Int) < (wrap64 (t252 + 18)) then (some (wrap64 ((wrap64 ((wrap64 (11 + (l0.length : Int))) - t252)) - 15))) else (if (l0.length : Int) < (wrap64 (t252 + 25)) then (some 14) else (some 15)))))) = some r := H
          have A6 := Aside0.mk A60
          clear A60
          by_cases c7 : (l0.length : Int) < t251
          · rw [if_pos c7] at H
            have c7b0 : decide ((l0.length : Int) < t251) = true := decide_eq_true c7
            clear c7
            by_cases c8 : (l0.length : Int) ≥ (wrap64 (t251 - 4))
            · rw [if_pos c8] at H
              have c8b0 : decide ((wrap64 (t251 - 4)) ≤ (l0.length : Int)) = true := decide_eq_true c8
              clear c8
              obtain rfl := Option.some.inj H
              go_enter Try.func87, Try.ntmps87
              go_wp2_with (first | ((with_reducible refine gate_callee (f := 102) rfl ?_); refine goesL_ (some 18) rfl rfl Try.func102 (by kernel_rfl) rfl #[.slice A0 l0.length c0] rfl (by (try simp only [List.map_toArray, List.map_cons, List.map_nil]); first | done | rfl | (simp only [List.length_drop, List.length_take]; rfl)) ?_; (with_reducible refine (spec_l1lay.calls k _ _ l0 t251 t252 _ ?side1 ?side2 A6.out).mono ?_); (case side1 => repeat (first | exact HR0.out | (with_reducible refine Kd.C_alloc ?_ _) | (with_reducible refine Kd.C_drewN ?_ _) | (with_reducible refine Kd.C_drew ?_))); (case side2 => exact HC0.out); rintro e w' ⟨rfl, ⟨nd, rfl⟩⟩; refine ⟨_, rfl, ?_⟩))
              go_ret
              exact ⟨by first | rfl | (simp; done) | (simp [*]; done), by repeat (first | exact Drawn0.refl _ | apply Drawn0.step)⟩
            · rw [if_neg c8] at H
              have c8b0 : decide ((wrap64 (t251 - 4)) ≤ (l0.length : Int)) = false := decide_eq_false c8
              clear c8
              by_cases c9 : t251 = 19
              · rw [if_pos c9] at H
                have c9b0 : (t251 == 19) = true := beq_iff_eq.mpr c9
                have c9b1 : (t251 != 19) = false := bne_eq_false_iff_eq.mpr c9
                clear c9
                obtain rfl := Option.some.inj H
                go_enter Try.func87, Try.ntmps87
                go_wp2_with (first | ((with_reducible refine gate_callee (f := 102) rfl ?_); refine goesL_ (some 18) rfl rfl Try.func102 (by kernel_rfl) rfl #[.slice A0 l0.length c0] rfl (by (try simp only [List.map_toArray, List.map_cons, List.map_nil]); first | done | rfl | (simp only [List.length_drop, List.length_take]; rfl)) ?_; (with_reducible refine (spec_l1lay.calls k _ _ l0 t251 t252 _ ?side1 ?side2 A6.out).mono ?_); (case side1 => repeat (first | exact HR0.out | (with_reducible refine Kd.C_alloc ?_ _) | (with_reducible refine Kd.C_drewN ?_ _) | (with_reducible refine Kd.C_drew ?_))); (case side2 => exact HC0.out); rintro e w' ⟨rfl, ⟨nd, rfl⟩⟩; refine ⟨_, rfl, ?_⟩))
                go_ret
                exact ⟨by first | rfl | (simp; done) | (simp [*]; done), by repeat (first | exact Drawn0.refl _ | apply Drawn0.step)⟩
              · rw [if_neg c9] at H
                have c9b0 : (t251 == 19) = false := beq_eq_false_iff_ne.mpr c9
                have c9b1 : (t251 != 19) = true := bne_iff_ne.mpr c9
                by_cases c10 : (l0.length : Int) < 32
                · rw [if_pos c10] at H
                  have c10b0 : decide ((l0.length : Int) < 32) = true := decide_eq_true c10
                  have c10b1 : decide (l0.length < 32) = true := decide_eq_true (by omega)
                  clear c10
                  obtain rfl := Option.some.inj H
                  go_enter Try.func87, Try.ntmps87
                  go_wp2_with (first | ((with_reducible refine gate_callee (f := 102) rfl ?_); refine goesL_ (some 18) rfl rfl Try.func102 (by kernel_rfl) rfl #[.slice A0 l0.length c0] rfl (by (try simp only [List.map_toArray, List.map_cons, List.map_nil]); first | done | rfl | (simp only [List.length_drop, List.length_take]; rfl)) ?_; (with_reducible refine (spec_l1lay.calls k _ _ l0 t251 t252 _ ?side1 ?side2 A6.out).mono ?_); (case side1 => repeat (first | exact HR0.out | (with_reducible refine Kd.C_alloc ?_ _) | (with_reducible refine Kd.C_drewN ?_ _) | (with_reducible refine Kd.C_drew ?_))); (case side2 => exact HC0.out); rintro e w' ⟨rfl, ⟨nd, rfl⟩⟩; refine ⟨_, rfl, ?_⟩))
                  go_ret
                  exact ⟨by first | rfl | (simp; done) | (simp [*]; done), by repeat (first | exact Drawn0.refl _ | apply Drawn0.step)⟩
                · rw [if_neg c10] at H
                  have c10b0 : decide ((l0.length : Int) < 32) = false := decide_eq_false c10
                  have c10b1 : decide (l0.length < 32) = false := decide_eq_false (by omega)
                  clear c10
                  by_cases c11 : (l0.length : Int) = 32
                  · rw [if_pos c11] at H
                    have c11b0 : ((l0.length : Int) == 32) = true := beq_iff_eq.mpr c11
                    have c11b1 : ((l0.length : Int) != 32) = false := bne_eq_false_iff_eq.mpr c11
                    clear c11
                    obtain rfl := Option.some.inj H
                    go_enter Try.func87, Try.ntmps87
                    go_wp2_with (first | ((with_reducible refine gate_callee (f := 102) rfl ?_); refine goesL_ (some 18) rfl rfl Try.func102 (by kernel_rfl) rfl #[.slice A0 l0.length c0] rfl (by (try simp only [List.map_toArray, List.map_cons, List.map_nil]); first | done | rfl | (simp only [List.length_drop, List.length_take]; rfl)) ?_; (with_reducible refine (spec_l1lay.calls k _ _ l0 t251 t252 _ ?side1 ?side2 A6.out).mono ?_); (case side1 => repeat (first | exact HR0.out | (with_reducible refine Kd.C_alloc ?_ _) | (with_reducible refine Kd.C_drewN ?_ _) | (with_reducible refine Kd.C_drew ?_))); (case side2 => exact HC0.out); rintro e w' ⟨rfl, ⟨nd, rfl⟩⟩; refine ⟨_, rfl, ?_⟩))
                    go_ret
                    exact ⟨by first | rfl | (simp; done) | (simp [*]; done), by repeat (first | exact Drawn0.refl _ | apply Drawn0.step)⟩
                  · rw [if_neg c11] at H
                    have c11b0 : ((l0.length : Int) == 32) = false := beq_eq_false_iff_ne.mpr c11
                    have c11b1 : ((l0.length : Int) != 32) = true := bne_iff_ne.mpr c11
                    obtain rfl := Option.some.inj H
                    go_enter Try.func87, Try.ntmps87
                    go_wp2_with (first | ((with_reducible refine gate_callee (f := 102) rfl ?_); refine goesL_ (some 18) rfl rfl Try.func102 (by kernel_rfl) rfl #[.slice A0 l0.length c0] rfl (by (try simp only [List.map_toArray, List.map_cons, List.map_nil]); first | done | rfl | (simp only [List.length_drop, List.length_take]; rfl)) ?_; (with_reducible refine (spec_l1lay.calls k _ _ l0 t251 t252 _ ?side1 ?side2 A6.out).mono ?_); (case side1 => repeat (first | exact HR0.out | (with_reducible refine Kd.C_alloc ?_ _) | (with_reducible refine Kd.C_drewN ?_ _) | (with_reducible refine Kd.C_drew ?_))); (case side2 => exact HC0.out); rintro e w' ⟨rfl, ⟨nd, rfl⟩⟩; refine ⟨_, rfl, ?_⟩))
                    go_ret
                    exact ⟨by first | rfl | (simp; done) | (simp [*]; done), by repeat (first | exact Drawn0.refl _ | apply Drawn0.step)⟩
          · rw [if_neg c7] at H
            have c7b0 : decide ((l0.length : Int) < t251) = false := decide_eq_false c7
            clear c7
            by_cases c12 : (l0.length : Int) < t252
            · rw [if_pos c12] at H
              have c12b0 : decide ((l0.length : Int) < t252) = true := decide_eq_true c12
              clear c12
              obtain rfl := Option.some.inj H
              go_enter Try.func87, Try.ntmps87
              go_wp2_with (first | ((with_reducible refine gate_callee (f := 102) rfl ?_); refine goesL_ (some 18) rfl rfl Try.func102 (by kernel_rfl) rfl #[.slice A0 l0.length c0] rfl (by (try simp only [List.map_toArray, List.map_cons, List.map_nil]); first | done | rfl | (simp only [List.length_drop, List.length_take]; rfl)) ?_; (with_reducible refine (spec_l1lay.calls k _ _ l0 t251 t252 _ ?side1 ?side2 A6.out).mono ?_); (case side1 => repeat (first | exact HR0.out | (with_reducible refine Kd.C_alloc ?_ _) | (with_reducible refine Kd.C_drewN ?_ _) | (with_reducible refine Kd.C_drew ?_))); (case side2 => exact HC0.out); rintro e w' ⟨rfl, ⟨nd, rfl⟩⟩; refine ⟨_, rfl, ?_⟩))
              go_ret
              exact ⟨by first | rfl | (simp; done) | (simp [*]; done), by repeat (first | exact Drawn0.refl _ | apply Drawn0.step)⟩
            · rw [if_neg c12] at H
              have c12b0 : decide ((l0.length : Int) < t252) = false := decide_eq_false c12
              clear c12
              by_cases c13 : (l0.length : Int) < (wrap64 (t252 + 15))
              · rw [if_pos c13] at H
                have c13b0 : decide ((l0.length : Int) < (wrap64 (t252 + 15))) = true := decide_eq_true c13
                clear c13
                obtain rfl := Option.some.inj H
                go_enter Try.func87, Try.ntmps87
                go_wp2_with (first | ((with_reducible refine gate_callee (f := 102) rfl ?_); refine goesL_ (some 18) rfl rfl Try.func102 (by kernel_rfl) rfl #[.slice A0 l0.length c0] rfl (by (try simp only [List.map_toArray, List.map_cons, List.map_nil]); first | done | rfl | (simp only [List.length_drop, List.length_take]; rfl)) ?_; (with_reducible refine (spec_l1lay.calls k _ _ l0 t251 t252 _ ?side1 ?side2 A6.out).mono ?_); (case side1 => repeat (first | exact HR0.out | (with_reducible refine Kd.C_alloc ?_ _) | (with_reducible refine Kd.C_drewN ?_ _) | (with_reducible refine Kd.C_drew ?_))); (case side2 => exact HC0.out); rintro e w' ⟨rfl, ⟨nd, rfl⟩⟩; refine ⟨_, rfl, ?_⟩))
                go_ret
                exact ⟨by first | rfl | (simp; done) | (simp [*]; done), by repeat (first | exact Drawn0.refl _ | apply Drawn0.step)⟩
              · rw [if_neg c13] at H
                have c13b0 : decide ((l0.length : Int) < (wrap64 (t252 + 15))) = false := decide_eq_false c13
                clear c13
                by_cases c14 : (l0.length : Int) < (wrap64 (t252 + 18))
                · rw [if_pos c14] at H
                  have c14b0 : decide ((l0.length : Int) < (wrap64 (t252 + 18))) = true := decide_eq_true c14
                  clear c14
                  obtain rfl := Option.some.inj H
                  go_enter Try.func87, Try.ntmps87
                  go_wp2_with (first | ((with_reducible refine gate_callee (f := 102) rfl ?_); refine goesL_ (some 18) rfl rfl Try.func102 (by kernel_rfl) rfl #[.slice A0 l0.length c0] rfl (by (try simp only [List.map_toArray, List.map_cons, List.map_nil]); first | done | rfl | (simp only [List.length_drop, List.length_take]; rfl)) ?_; (with_reducible refine (spec_l1lay.calls k _ _ l0 t251 t252 _ ?side1 ?side2 A6.out).mono ?_); (case side1 => repeat (first | exact HR0.out | (with_reducible refine Kd.C_alloc ?_ _) | (with_reducible refine Kd.C_drewN ?_ _) | (with_reducible refine Kd.C_drew ?_))); (case side2 => exact HC0.out); rintro e w' ⟨rfl, ⟨nd, rfl⟩⟩; refine ⟨_, rfl, ?_⟩))
                  go_ret
                  exact ⟨by first | rfl | (simp; done) | (simp [*]; done), by repeat (first | exact Drawn0.refl _ | apply Drawn0.step)⟩
                · rw [if_neg c14] at H
                  have c14b0 : decide ((l0.length : Int) < (wrap64 (t252 + 18))) = false := decide_eq_false c14
                  clear c14
                  by_cases c15 : (l0.length : Int) < (wrap64 (t252 + 25))
                  · rw [if_pos c15] at H
                    have c15b0 : decide ((l0.length : Int) < (wrap64 (t252 + 25))) = true := decide_eq_true c15
                    clear c15
                    obtain rfl := Option.some.inj H
                    go_enter Try.func87, Try.ntmps87
                    go_wp2_with (first | ((with_reducible refine gate_callee (f := 102) rfl ?_); refine goesL_ (some 18) rfl rfl Try.func102 (by kernel_rfl) rfl #[.slice A0 l0.length c0] rfl (by (try simp only [List.map_toArray, List.map_cons, List.map_nil]); first | done | rfl | (simp only [List.length_drop, List.length_take]; rfl)) ?_; (with_reducible refine (spec_l1lay.calls k _ _ l0 t251 t252 _ ?side1 ?side2 A6.out).mono ?_); (case side1 => repeat (first | exact HR0.out | (with_reducible refine Kd.C_alloc ?_ _) | (with_reducible refine Kd.C_drewN ?_ _) | (with_reducible refine Kd.C_drew ?_))); (case side2 => exact HC0.out); rintro e w' ⟨rfl, ⟨nd, rfl⟩⟩; refine ⟨_, rfl, ?_⟩))
                    go_ret
                    exact ⟨by first | rfl | (simp; done) | (simp [*]; done), by repeat (first | exact Drawn0.refl _ | apply Drawn0.step)⟩
                  · rw [if_neg c15] at H
                    have c15b0 : decide ((l0.length : Int) < (wrap64 (t252 + 25))) = false := decide_eq_false c15
                    clear c15
                    obtain rfl := Option.some.inj H
                    go_enter Try.func87, Try.ntmps87
                    go_wp2_with (first | ((with_reducible refine gate_callee (f := 102) rfl ?_); refine goesL_ (some 18) rfl rfl Try.func102 (by kernel_rfl) rfl #[.slice A0 l0.length c0] rfl (by (try simp only [List.map_toArray, List.map_cons, List.map_nil]); first | done | rfl | (simp only [List.length_drop, List.length_take]; rfl)) ?_; (with_reducible refine (spec_l1lay.calls k _ _ l0 t251 t252 _ ?side1 ?side2 A6.out).mono ?_); (case side1 => repeat (first | exact HR0.out | (with_reducible refine Kd.C_alloc ?_ _) | (with_reducible refine Kd.C_drewN ?_ _) | (with_reducible refine Kd.C_drew ?_))); (case side2 => exact HC0.out); rintro e w' ⟨rfl, ⟨nd, rfl⟩⟩; refine ⟨_, rfl, ?_⟩))
                    go_ret
                    exact ⟨by first | rfl | (simp; done) | (simp [*]; done), by repeat (first | exact Drawn0.refl _ | apply Drawn0.step)⟩

end Go.Proofs.Ytdoclpgciadjaaa.P

namespace Go.Proofs.Ytdoclpgciadjaaa.P
open Go.RowKit Go.Proofs.YtdoclpgciadjaaaW.PrintWords Go.Proofs.YtdoclpgciadjaaaW.PrintLast Go.Proofs.YtdoclpgciadjaaaW.PrintMore
attribute [local go_sem] max2_int min2_int max_two min_two max_three min_three max_four min_four
set_option linter.unusedVariables false
set_option linter.unusedSimpArgs false

/-! ### spec_l1crcOk: function 88 -/
def spec_l1crcOk.j0 : Nat → List Int → Int → Bool → Option (Bool)
  | 0, _, _, _ => none
  | k + 1, x0, x4, x18 => if x18 = true then (some false) else (if 0 ≤ x4 then (if x4 ≤ (x0.length : Int) then ((spec_Crc15.f k (strOfNums (x0.take (x4 : Int).toNat))).bind fun t270 => (if x4 ≤ (wrap64 (x4 + 15)) then (if (wrap64 (x4 + 15)) ≤ (x0.length : Int) then ((spec_l1val.f k (strOfNums ((x0.take ((wrap64 (x4 + 15)) : Int).toNat).drop (x4 : Int).toNat))).bind fun t272 => (some (t270 == t272))) else (none)) else (none))) else (none)) else (none))
def spec_l1crcOk.f (k : Nat) (l0 : List Int) : Option (Bool) := (spec_l1lay.f k l0).bind fun bt267 => (if bt267.2 = 0 then (spec_l1crcOk.j0 k l0 bt267.2 true) else (spec_l1crcOk.j0 k l0 bt267.2 (decide ((l0.length : Int) < (wrap64 (bt267.2 + 15))))))
theorem spec_l1crcOk.mono_l : ∀ k, (∀ y0 y1 y2, LeO (spec_l1crcOk.j0 k y0 y1 y2) (spec_l1crcOk.j0 (k + 1) y0 y1 y2))
  | 0 => fun _ _ _ r h => by simp [spec_l1crcOk.j0] at h
  | k + 1 => by
    have ih0 := spec_l1crcOk.mono_l k
    · intro y0 y1 y2
      unfold spec_l1crcOk.j0
      repeat' first
      | (with_reducible exact ih0 _ _ _)
      | (with_reducible exact spec_Crc15.mono _ _)
      | (with_reducible exact spec_l1lay.mono _ _)
      | (with_reducible exact spec_l1val.mono _ _)
      | (with_reducible exact LeO.refl _)
      | (with_reducible exact LeO.none _)
      | (with_reducible refine LeO.ite ?_ ?_)
      | (with_reducible refine LeO.bind ?_ (fun _ => ?_))
      | exact ih0 _ _ _
      | exact spec_Crc15.mono _ _
      | exact spec_l1lay.mono _ _
      | exact spec_l1val.mono _ _
      | exact LeO.none _
      | refine LeO.ite ?_ ?_
      | refine LeO.bind ?_ (fun _ => ?_)
theorem spec_l1crcOk.mono : ∀ a0 k, LeO (spec_l1crcOk.f k a0) (spec_l1crcOk.f (k + 1) a0) := by
  intro a0 k
  have ih0 := spec_l1crcOk.mono_l k
  unfold spec_l1crcOk.f
  repeat' first
      | (with_reducible exact ih0 _ _ _)
      | (with_reducible exact spec_Crc15.mono _ _)
      | (with_reducible exact spec_l1lay.mono _ _)
      | (with_reducible exact spec_l1val.mono _ _)
      | (with_reducible exact LeO.refl _)
      | (with_reducible exact LeO.none _)
      | (with_reducible refine LeO.ite ?_ ?_)
      | (with_reducible refine LeO.bind ?_ (fun _ => ?_))
      | exact ih0 _ _ _
      | exact spec_Crc15.mono _ _
      | exact spec_l1lay.mono _ _
      | exact spec_l1val.mono _ _
      | exact LeO.none _
      | refine LeO.ite ?_ ?_
      | refine LeO.bind ?_ (fun _ => ?_)
def spec_l1crcOk.T4 : Bool × List (List Nat × List Nat) := (true, [([], []), ([], []), ([0, 1], [0, 1]), ([2], [2]), ([3], [3]), ([], []), ([], []), ([], []), ([7], [7]), ([5, 6, 8], [5, 6, 8]), ([9], [9]), ([10, 4], [10]), ([4, 11], [4, 11]), ([12, 11, 0, 1, 2, 3, 4, 5, 6, 7, 8, 9, 10, 11, 12], [12])])
def spec_l1crcOk.B4 : List Nat := [0, 0, 3, 7, 15, 0, 0, 0, 128, 480, 992, 2047, 4095, 8191]
theorem spec_l1crcOk.tab4 : rtab .any (opsOf Try.f88 4) = spec_l1crcOk.T4 := by kernel_rfl
theorem spec_l1crcOk.bits4 : waitsOk spec_l1crcOk.T4.2 spec_l1crcOk.B4 = true := by kernel_rfl
set_option maxHeartbeats 8000000 in
set_option maxRecDepth 100000 in
theorem spec_l1crcOk.calls (k : Nat) (A0 : Option Addr) (c0 : Nat) (l0 : List Int) (r : Bool) (w : World) (hr0 : Kd.C (Kd.int .u8) w A0 l0.length l0) (hc0 : l0.length ≤ c0) (h : spec_l1crcOk.f k l0 = some r) :
    Calls Try.prog 88 #[.slice A0 l0.length c0] w fun e w' => e = .returned (.bool r) ∧ Below w.heap.size w w' := by
  have HR0 := Aside0.mk hr0
  have HC0 := Aside0.mk hc0
  clear hr0 hc0
  have HB := Aside0.mk (Below.refl w.heap.size w)
  have H : ((spec_l1lay.f k l0).bind fun bt267 => (if bt267.2 = 0 then (spec_l1crcOk.j0 k l0 bt267.2 true) else (spec_l1crcOk.j0 k l0 bt267.2 (decide ((l0.length : Int) < (wrap64 (bt267.2 + 15))))))) = some r := h
  clear h
  replace H := Option.bind_eq_some_iff.mp H
  obtain ⟨⟨t267, t268⟩, A20, H⟩ := H
  replace H : (if t268 = 0 then (spec_l1crcOk.j0 k l0 t268 true) else (spec_l1crcOk.j0 k l0 t268 (decide ((l0.length : Int) < (wrap64 (t268 + 15)))))) = some r := H
  have A2 := Aside0.mk A20
  clear A20
  have HC3 := Aside0.mk H
  clear H
  go_enter Try.func88, Try.ntmps88
  go_upto_region 2 with (first | ((with_reducible refine gate_callee (f := 102) rfl ?_); refine goesL_ (some 7) rfl rfl Try.func102 (by kernel_rfl) rfl #[.slice A0 l0.length c0] rfl (by (try simp only [List.map_toArray, List.map_cons, List.map_nil]); first | done | rfl | (simp only [List.length_drop, List.length_take]; rfl)) ?_; (with_reducible refine (spec_l1lay.calls k _ _ l0 t267 t268 _ ?side1 ?side2 A2.out).mono ?_); (case side1 => repeat (first | exact HR0.out | (with_reducible refine Kd.C_alloc ?_ _) | (with_reducible refine Kd.C_drewN ?_ _) | (with_reducible refine Kd.C_drew ?_))); (case side2 => exact HC0.out); rintro e w' ⟨rfl, ⟨nd, rfl⟩⟩; refine ⟨_, rfl, ?_⟩))
  (try simp only [Act.put, List.setIfInBounds_toArray, List.set_cons_zero, List.set_cons_succ])
  go_cut [18] (fun v18 wc => ∃ (kq : Nat) (x18_2 : Bool), v18 = .bool x18_2 ∧ Aside0 (spec_l1crcOk.j0 kq l0 t268 x18_2 = some r) ∧ Aside0 (kq ≤ k) ∧ Aside0 (Below w.heap.size w wc))
  case first =>
    have H := HC3.out
    clear HC3
    by_cases c4 : t268 = 0
    · rw [if_pos c4] at H
      have c4b0 : (t268 == 0) = true := beq_iff_eq.mpr c4
      have c4b1 : (t268 != 0) = false := bne_eq_false_iff_eq.mpr c4
      clear c4
      (first | rw [c4b0] | (simp only [i64_w, i32_w]; rw [c4b0]) | skip)
      have H' := Aside0.mk H
      clear H
      go_wp2
      go_meet
      case rel => exact ⟨_, (true), (by first | rfl | (simp; done) | (simp [*]; done)), H', ⟨by first | omega | exact Nat.le_refl _⟩, ⟨by repeat (first | (with_reducible first | exact HB.out | apply below_alloc | apply pw_below_drewN | apply below_drew1) | exact HB.out)⟩⟩
    · rw [if_neg c4] at H
      have c4b0 : (t268 == 0) = false := beq_eq_false_iff_ne.mpr c4
      have c4b1 : (t268 != 0) = true := bne_iff_ne.mpr c4
      (first | rw [c4b0] | (simp only [i64_w, i32_w]; rw [c4b0]) | skip)
      have H' := Aside0.mk H
      clear H
      go_wp2
      go_meet
      case rel => exact ⟨_, (decide ((l0.length : Int) < (wrap64 (t268 + 15)))), (by first | rfl | (simp; done) | (simp [*]; done)), H', ⟨by first | omega | exact Nat.le_refl _⟩, ⟨by repeat (first | (with_reducible first | exact HB.out | apply below_alloc | apply pw_below_drewN | apply below_drew1) | exact HB.out)⟩⟩
  case rest =>
    clear HC3
    try clear c1
    try clear p2
    try clear c4
    try clear c4b0
    try clear c4b1
    obtain ⟨kq, x18_2, rfl, HA, HJ2, HB⟩ := hcut
    cases kq with
    | zero => exact absurd HA.out (by simp [spec_l1crcOk.j0])
    | succ kj2 =>
      have H := HA.out
      clear HA
      simp only [spec_l1crcOk.j0] at H
      by_cases c5 : x18_2 = true
      · subst c5
        have H1 : (some false) = some r := by rw [if_pos rfl] at H; exact H
        clear H
        have H := H1
        clear H1
        obtain rfl := Option.some.inj H
        go_wp2
        go_ret
        exact ⟨by first | rfl | (simp [errW_none, errW_some] <;> rfl) | (simp [*, errW_none, errW_some] <;> rfl), by repeat (first | (with_reducible first | exact HB.out | apply below_alloc | apply pw_below_drewN | apply below_drew1) | exact HB.out)⟩
      · replace c5 := Bool.eq_false_iff.mpr c5
        subst c5
        have H1 : (if 0 ≤ t268 then (if t268 ≤ (l0.length : Int) then ((spec_Crc15.f kj2 (strOfNums (l0.take (t268 : Int).toNat))).bind fun t270 => (if t268 ≤ (wrap64 (t268 + 15)) then (if (wrap64 (t268 + 15)) ≤ (l0.length : Int) then ((spec_l1val.f kj2 (strOfNums ((l0.take ((wrap64 (t268 + 15)) : Int).toNat).drop (t268 : Int).toNat))).bind fun t272 => (some (t270 == t272))) else (none)) else (none))) else (none)) else (none)) = some r := by rw [if_neg (show ¬ (false = true) by decide)] at H; exact H
        clear H
        have H := H1
        clear H1
        by_cases c6 : 0 ≤ t268
        · rw [if_pos c6] at H
          have c6b0 := eq_true c6
          have c6b1 : decide (0 ≤ t268) = true := decide_eq_true c6
          clear c6
          by_cases c7 : t268 ≤ (l0.length : Int)
          · rw [if_pos c7] at H
            have c7b0 := eq_true c7
            have c7b1 : decide (t268 ≤ (l0.length : Int)) = true := decide_eq_true c7
            clear c7
            replace H := Option.bind_eq_some_iff.mp H
            obtain ⟨t270, A80, H⟩ := H
            replace H : (if t268 ≤ (wrap64 (t268 + 15)) then (if (wrap64 (t268 + 15)) ≤ (l0.length : Int) then ((spec_l1val.f kj2 (strOfNums ((l0.take ((wrap64 (t268 + 15)) : Int).toNat).drop (t268 : Int).toNat))).bind fun t272 => (some (t270 == t272))) else (none)) else (none)) = some r := H
            have A8 := Aside0.mk A80
            clear A80
            have c9b0 := eq_true (of_decide_eq_true (by first | (with_reducible assumption) | assumption) : 0 ≤ t268)
            by_cases c10 : t268 ≤ (wrap64 (t268 + 15))
            · rw [if_pos c10] at H
              have c10b0 := eq_true c10
              have c10b1 : decide (t268 ≤ (wrap64 (t268 + 15))) = true := decide_eq_true c10
              by_cases c11 : (wrap64 (t268 + 15)) ≤ (l0.length : Int)
              · rw [if_pos c11] at H
                have c11b0 := eq_true c11
                have c11b1 : decide ((wrap64 (t268 + 15)) ≤ (l0.length : Int)) = true := decide_eq_true c11
                replace H := Option.bind_eq_some_iff.mp H
                obtain ⟨t272, A120, H⟩ := H
                replace H : (some (t270 == t272)) = some r := H
                have A12 := Aside0.mk A120
                clear A120
                obtain rfl := Option.some.inj H
                try go_wp2
                have n0_ := Aside0.mk (below_drew1 HB.out)
                clear HB
                have HB := n0_
                clear n0_
                obtain ⟨i014, hi014, _, hsz14, _⟩ := info_parts info5
                obtain ⟨hcut14, hA14, hC14⟩ := print_take_of (P := Try.prog) (Value.int .u8) 0 22 5 .i64 Try.underlying22 hi014 hsz14 A0 c0 l0 t268 (of_decide_eq_true (by first | (with_reducible assumption) | assumption)) (of_decide_eq_true (by first | (with_reducible assumption) | assumption)) HC0.out
                have HR269 := Aside0.mk (Kd.C_of_reads (h1 := fun _ => rfl) (hA14 _ (Kd.reads_of_C HR0.out)))
                have HC269 := Aside0.mk hC14
                clear hA14 hC14 hi014 hsz14
                obtain ⟨i015, hi015, _, hsz15, _⟩ := info_parts info5
                obtain ⟨A15, hcut15, hA15, hC15⟩ := print_mid_of (P := Try.prog) (Value.int .u8) 0 22 5 .i64 .i64 Try.underlying22 hi015 hsz15 A0 c0 l0 t268 (wrap64 (t268 + 15)) (of_decide_eq_true (by first | (with_reducible assumption) | assumption)) (by first | omega | exact of_decide_eq_true (by first | (with_reducible assumption) | assumption)) (of_decide_eq_true (by first | (with_reducible assumption) | assumption)) HC0.out
                have HR271 := Aside0.mk (Kd.C_of_reads (h1 := fun _ => rfl) (hA15 _ (Kd.reads_of_C HR0.out)))
                have HC271 := Aside0.mk hC15
                clear hA15 hC15 hi015 hsz15
                have hlA : (l0.take t268.toNat).length = t268.toNat := by rw [List.length_take, Nat.min_eq_left (by have := of_decide_eq_true c7b1; omega)]
                have hlB : (List.drop t268.toNat (List.take (wrap64 (t268 + 15)).toNat l0)).length = (wrap64 (t268 + 15)).toNat - t268.toNat := by rw [List.length_drop, List.length_take, Nat.min_eq_left (by omega)]
                have HCV : Aside0 (∀ W' : World, Below w.heap.size w W' → ((convert 22 9 (.slice A0 t268.toNat c0)).run Try.prog W' = .ok (.string (strOfNums (l0.take (t268 : Int).toNat))) W') ∧ ((convert 22 9 (.slice A15 ((wrap64 (t268 + 15)).toNat - t268.toNat) (c0 - t268.toNat))).run Try.prog W' = .ok (.string (strOfNums ((l0.take ((wrap64 (t268 + 15)) : Int).toNat).drop (t268 : Int).toNat))) W')) := Aside0.mk (fun W' hW => ⟨by have h := Kd.C_string (P := Try.prog) (w := W') (A := A0) (c := c0) Try.underlying22 Try.underlying5 Try.underlying9 (Kd.C_below HR269.out hW); rw [hlA] at h; exact h, by have h := Kd.C_string (P := Try.prog) (w := W') (A := A15) (c := (c0 - t268.toNat)) Try.underlying22 Try.underlying5 Try.underlying9 (Kd.C_below HR271.out hW); rw [hlB] at h; exact h⟩)
                clear hlA hlB
                refine start_ (n := 14) (S := fun W' => ((convert 22 9 (.slice A0 t268.toNat c0)).run Try.prog W' = .ok (.string (strOfNums (l0.take (t268 : Int).toNat))) W') ∧ ((convert 22 9 (.slice A15 ((wrap64 (t268 + 15)).toNat - t268.toNat) (c0 - t268.toNat))).run Try.prog W' = .ok (.string (strOfNums ((l0.take ((wrap64 (t268 + 15)) : Int).toNat).drop (t268 : Int).toNat))) W')) (ds := []) #[false, false, false, false, false, false, false, false, false, false, false, false, false, false] (by kernel_rfl) rfl rfl (HCV.out _ HB.out) (fun hHeld => ?_); refine with_tabW spec_l1crcOk.tab4 spec_l1crcOk.bits4 (fun HT_ HW_ => ?_)
                generalize wc.drew = w13 at HB HR269 HR271 hHeld ⊢
                refine pure_ (i := 0) (N := some 19) (v := ?_) (a' := ?_) #[true, false, false, false, false, false, false, false, false, false, false, false, false, false] rfl rfl (any_of HT_.out (by kernel_rfl)) (fun _ _ _ h => h) (Or.inl ⟨by rfl, ?_⟩) ?_ ?_
                rotate_left
                · intro w'
                  go_simp
                  with_reducible rfl
                rotate_left
                · simp only [Act.put, List.setIfInBounds_toArray, List.set_cons_zero, List.set_cons_succ, i64_w, i32_w]
                  rfl
                refine pure_ (i := 1) (N := some 20) (v := ?_) (a' := ?_) #[true, true, false, false, false, false, false, false, false, false, false, false, false, false] rfl rfl (any_of HT_.out (by kernel_rfl)) (fun _ _ _ h => h) (Or.inl ⟨by rfl, ?_⟩) ?_ ?_
                rotate_left
                · intro w'
                  go_simp
                  with_reducible rfl
                rotate_left
                · simp only [Act.put, List.setIfInBounds_toArray, List.set_cons_zero, List.set_cons_succ, i64_w, i32_w]
                  rfl
                refine pure_ (i := 2) (N := some 21) (v := ?_) (a' := ?_) #[true, true, true, false, false, false, false, false, false, false, false, false, false, false] rfl rfl (any_of HT_.out (by kernel_rfl)) (fun _ _ _ h => h) (Or.inl ⟨by rfl, ?_⟩) ?_ ?_
                rotate_left
                · intro w'
                  go_simp
                  with_reducible rfl
                rotate_left
                · simp only [Act.put, List.setIfInBounds_toArray, List.set_cons_zero, List.set_cons_succ, i64_w, i32_w]
                  rfl
                refine take_ (i := 3) (N := some 22) (v := ?_) (a' := ?_) #[true, true, true, true, false, false, false, false, false, false, false, false, false, false] rfl rfl (take_ofW HT_.out HW_.out (by kernel_rfl)) (fun _ _ _ h => h) (Or.inl ⟨by rfl, ?_⟩) hHeld ?_ ?_
                rotate_left
                · intro w' s0
                  obtain ⟨s1, s2⟩ := s0
                  go_simp
                  with_reducible rfl
                rotate_left
                · simp only [Act.put, List.setIfInBounds_toArray, List.set_cons_zero, List.set_cons_succ, i64_w, i32_w]
                  rfl
                refine pure_ (i := 5) (N := some 24) (v := ?_) (a' := ?_) #[true, true, true, true, false, true, false, false, false, false, false, false, false, false] rfl rfl (any_of HT_.out (by kernel_rfl)) (fun _ _ _ h => h) (Or.inl ⟨by rfl, ?_⟩) ?_ ?_
                rotate_left
                · intro w'
                  go_simp
                  with_reducible rfl
                rotate_left
                · simp only [Act.put, List.setIfInBounds_toArray, List.set_cons_zero, List.set_cons_succ, i64_w, i32_w]
                  rfl
                refine pure_ (i := 6) (N := some 25) (v := ?_) (a' := ?_) #[true, true, true, true, false, true, true, false, false, false, false, false, false, false] rfl rfl (any_of HT_.out (by kernel_rfl)) (fun _ _ _ h => h) (Or.inl ⟨by rfl, ?_⟩) ?_ ?_
                rotate_left
                · intro w'
                  go_simp
                  with_reducible rfl
                rotate_left
                · simp only [Act.put, List.setIfInBounds_toArray, List.set_cons_zero, List.set_cons_succ, i64_w, i32_w]
                  rfl
                refine pure_ (i := 7) (N := some 26) (v := ?_) (a' := ?_) #[true, true, true, true, false, true, true, true, false, false, false, false, false, false] rfl rfl (any_of HT_.out (by kernel_rfl)) (fun _ _ _ h => h) (Or.inl ⟨by rfl, ?_⟩) ?_ ?_
                rotate_left
                · intro w'
                  go_simp
                  with_reducible rfl
                rotate_left
                · simp only [Act.put, List.setIfInBounds_toArray, List.set_cons_zero, List.set_cons_succ, i64_w, i32_w]
                  rfl
                refine pure_ (i := 8) (N := some 27) (v := ?_) (a' := ?_) #[true, true, true, true, false, true, true, true, true, false, false, false, false, false] rfl rfl (any_of HT_.out (by kernel_rfl)) (fun _ _ _ h => h) (Or.inl ⟨by rfl, ?_⟩) ?_ ?_
                rotate_left
                · intro w'
                  go_simp
                  with_reducible rfl
                rotate_left
                · simp only [Act.put, List.setIfInBounds_toArray, List.set_cons_zero, List.set_cons_succ, i64_w, i32_w]
                  rfl
                refine pure_ (i := 9) (N := some 28) (v := ?_) (a' := ?_) #[true, true, true, true, false, true, true, true, true, true, false, false, false, false] rfl rfl (any_of HT_.out (by kernel_rfl)) (fun _ _ _ h => h) (Or.inl ⟨by rfl, ?_⟩) ?_ ?_
                rotate_left
                · intro w'
                  go_simp
                  with_reducible rfl
                rotate_left
                · simp only [Act.put, List.setIfInBounds_toArray, List.set_cons_zero, List.set_cons_succ, i64_w, i32_w]
                  rfl
                refine take_ (i := 10) (N := some 29) (v := ?_) (a' := ?_) #[true, true, true, true, false, true, true, true, true, true, true, false, false, false] rfl rfl (take_ofW HT_.out HW_.out (by kernel_rfl)) (fun _ _ _ h => h) (Or.inl ⟨by rfl, ?_⟩) hHeld ?_ ?_
                rotate_left
                · intro w' s0
                  obtain ⟨s1, s2⟩ := s0
                  go_simp
                  with_reducible rfl
                rotate_left
                · simp only [Act.put, List.setIfInBounds_toArray, List.set_cons_zero, List.set_cons_succ, i64_w, i32_w]
                  rfl
                refine one_ (i := 4) (N := some 23) #[true, true, true, true, true, true, true, true, true, true, true, false, false, false] rfl rfl (one_of HT_.out (by kernel_rfl)) (by decide) (fun K hK => ?_)
                refine goes_ Try.func107 (by kernel_rfl) rfl #[.string (strOfNums (l0.take (t268 : Int).toNat))] (by rfl) rfl rfl (by (try simp only [List.map_toArray, List.map_cons, List.map_nil]); first | done | rfl | (simp only [List.length_drop, List.length_take]; rfl)) ?_
                with_reducible refine (spec_Crc15.calls kj2 (strOfNums (l0.take (t268 : Int).toNat)) t270 _ A8.out).mono ?_
                rintro e w17 ⟨rfl, hb⟩
                refine ⟨_, rfl, ?_⟩
                have n0_ := Aside0.mk (below_step (by repeat (first | (with_reducible first | exact HB.out | apply below_alloc | apply pw_below_drewN | apply below_drew1) | exact HB.out)) hb)
                clear HB
                have HB := n0_
                clear n0_
                (try clear hb)
                (try clear hb2)
                (try clear hk)
                (try clear hi)
                refine hK.out _ _ (HCV.out _ (by first | exact HB.out | exact pw_below_drewN HB.out _)) (fun hHeld => ?_)
                clear hK K
                refine norm_ (a' := ?_) ?_ ?_
                rotate_left
                · show Act.put _ (some 23) _ = _
                  simp only [Act.put, List.setIfInBounds_toArray, List.set_cons_zero, List.set_cons_succ, i64_w, i32_w]
                  rfl
                refine one_ (i := 11) (N := some 30) #[true, true, true, true, true, true, true, true, true, true, true, true, false, false] rfl rfl (one_of HT_.out (by kernel_rfl)) (by decide) (fun K hK => ?_)
                refine goes_ Try.func103 (by kernel_rfl) rfl #[.string (strOfNums ((l0.take ((wrap64 (t268 + 15)) : Int).toNat).drop (t268 : Int).toNat))] (by rfl) rfl rfl (by (try simp only [List.map_toArray, List.map_cons, List.map_nil]); first | done | rfl | (simp only [List.length_drop, List.length_take]; rfl)) ?_
                with_reducible refine (spec_l1val.calls kj2 (strOfNums ((l0.take ((wrap64 (t268 + 15)) : Int).toNat).drop (t268 : Int).toNat)) t272 _ A12.out).mono ?_
                rintro e w' ⟨rfl, ⟨nd, rfl⟩⟩
                refine ⟨_, rfl, ?_⟩
                refine hK.out _ _ (HCV.out _ (by first | exact HB.out | exact pw_below_drewN HB.out _)) (fun hHeld => ?_)
                clear hK K
                refine norm_ (a' := ?_) ?_ ?_
                rotate_left
                · show Act.put _ (some 30) _ = _
                  simp only [Act.put, List.setIfInBounds_toArray, List.set_cons_zero, List.set_cons_succ, i64_w, i32_w]
                  rfl
                refine pure_ (i := 12) (N := some 31) (v := ?_) (a' := ?_) #[true, true, true, true, true, true, true, true, true, true, true, true, true, false] rfl rfl (any_of HT_.out (by kernel_rfl)) (fun _ _ _ h => h) (Or.inl ⟨by rfl, ?_⟩) ?_ ?_
                rotate_left
                · intro w'
                  go_simp
                  with_reducible rfl
                rotate_left
                · simp only [Act.put, List.setIfInBounds_toArray, List.set_cons_zero, List.set_cons_succ, i64_w, i32_w]
                  rfl
                refine pure_ (i := 13) (N := some 2) (v := ?_) (a' := ?_) #[true, true, true, true, true, true, true, true, true, true, true, true, true, true] rfl rfl (any_of HT_.out (by kernel_rfl)) (fun _ _ _ h => h) (Or.inl ⟨by rfl, ?_⟩) ?_ ?_
                rotate_left
                · intro w'
                  go_simp
                  with_reducible rfl
                rotate_left
                · simp only [Act.put, List.setIfInBounds_toArray, List.set_cons_zero, List.set_cons_succ, i64_w, i32_w]
                  rfl
                refine done_ (done_of HT_.out (by kernel_rfl)) ?_
                try go_wp2
                go_ret
                exact ⟨by first | rfl | (simp [errW_none, errW_some] <;> rfl) | (simp [*, errW_none, errW_some] <;> rfl), by repeat (first | (with_reducible first | exact HB.out | apply below_alloc | apply pw_below_drewN | apply below_drew1) | exact HB.out)⟩
              · rw [if_neg c11] at H
                exact absurd H (by simp)
            · rw [if_neg c10] at H
              exact absurd H (by simp)
          · rw [if_neg c7] at H
            exact absurd H (by simp)
        · rw [if_neg c6] at H
          exact absurd H (by simp)

end Go.Proofs.Ytdoclpgciadjaaa.P

namespace Go.Proofs.Ytdoclpgciadjaaa.P
open Go.RowKit Go.Proofs.YtdoclpgciadjaaaW.PrintWords Go.Proofs.YtdoclpgciadjaaaW.PrintLast Go.Proofs.YtdoclpgciadjaaaW.PrintMore
attribute [local go_sem] max2_int min2_int max_two min_two max_three min_three max_four min_four
set_option linter.unusedVariables false
set_option linter.unusedSimpArgs false

/-! ### spec_l1look: function 138 -/
mutual
def spec_l1look.j0 : Nat → Int → Int → Bool → Option (Int)
  | 0, _, _, _ => none
  | k + 1, x1, x7, x42 => if x42 = true then (some 4) else (if x7 = 5 then (some 1) else (if x7 = 6 then (spec_l1look.j1 k x7 (x1 == 48)) else (spec_l1look.j1 k x7 false)))
def spec_l1look.j1 : Nat → Int → Bool → Option (Int)
  | 0, _, _ => none
  | k + 1, x7, x50 => if x50 = true then (some 6) else (if x7 = 6 then (some 2) else (some 0))
end
def spec_l1look.f (k : Nat) (l0 : List Int) (a1 : Int) : Option (Int) := (spec_l1field.f k l0).bind fun t273 => (if t273 = 1 then (if a1 = 49 then (some 4) else (some 0)) else (if t273 = 11 then (if a1 = 48 then (some 4) else (some 0)) else (if t273 = 13 then (if a1 = 48 then (some 4) else ((spec_l1crcOk.f k l0).bind fun t274 => (if t274 = true then (some 0) else (some 5)))) else (if t273 = 14 then ((spec_l1lay.f k l0).bind fun bt275 => (if (wrap64 ((wrap64 ((l0.length : Int) - bt275.2)) - 18)) < 6 then (spec_l1look.j0 k a1 (wrap64 ((wrap64 ((l0.length : Int) - bt275.2)) - 18)) (a1 == 48)) else (spec_l1look.j0 k a1 (wrap64 ((wrap64 ((l0.length : Int) - bt275.2)) - 18)) false))) else (some 0)))))
theorem spec_l1look.mono_l : ∀ k, (∀ y0 y1 y2, LeO (spec_l1look.j0 k y0 y1 y2) (spec_l1look.j0 (k + 1) y0 y1 y2)) ∧ (∀ y0 y1, LeO (spec_l1look.j1 k y0 y1) (spec_l1look.j1 (k + 1) y0 y1))
  | 0 => ⟨fun _ _ _ r h => by simp [spec_l1look.j0] at h, fun _ _ r h => by simp [spec_l1look.j1] at h⟩
  | k + 1 => by
    obtain ⟨ih0, ih1⟩ := spec_l1look.mono_l k
    refine ⟨?_, ?_⟩
    · intro y0 y1 y2
      unfold spec_l1look.j0
      repeat' first
      | (with_reducible exact ih0 _ _ _)
      | (with_reducible exact ih1 _ _)
      | (with_reducible exact spec_l1crcOk.mono _ _)
      | (with_reducible exact spec_l1field.mono _ _)
      | (with_reducible exact spec_l1lay.mono _ _)
      | (with_reducible exact LeO.refl _)
      | (with_reducible exact LeO.none _)
      | (with_reducible refine LeO.ite ?_ ?_)
      | (with_reducible refine LeO.bind ?_ (fun _ => ?_))
      | exact ih0 _ _ _
      | exact ih1 _ _
      | exact spec_l1crcOk.mono _ _
      | exact spec_l1field.mono _ _
      | exact spec_l1lay.mono _ _
      | exact LeO.none _
      | refine LeO.ite ?_ ?_
      | refine LeO.bind ?_ (fun _ => ?_)
    · intro y0 y1
      unfold spec_l1look.j1
      repeat' first
      | (with_reducible exact ih0 _ _ _)
      | (with_reducible exact ih1 _ _)
      | (with_reducible exact spec_l1crcOk.mono _ _)
      | (with_reducible exact spec_l1field.mono _ _)
      | (with_reducible exact spec_l1lay.mono _ _)
      | (with_reducible exact LeO.refl _)
      | (with_reducible exact LeO.none _)
      | (with_reducible refine LeO.ite ?_ ?_)
      | (with_reducible refine LeO.bind ?_ (fun _ => ?_))
      | exact ih0 _ _ _
      | exact ih1 _ _
      | exact spec_l1crcOk.mono _ _
      | exact spec_l1field.mono _ _
      | exact spec_l1lay.mono _ _
      | exact LeO.none _
      | refine LeO.ite ?_ ?_
      | refine LeO.bind ?_ (fun _ => ?_)
theorem spec_l1look.mono : ∀ a0 a1 k, LeO (spec_l1look.f k a0 a1) (spec_l1look.f (k + 1) a0 a1) := by
  intro a0 a1 k
  obtain ⟨ih0, ih1⟩ := spec_l1look.mono_l k
  unfold spec_l1look.f
  repeat' first
      | (with_reducible exact ih0 _ _ _)
      | (with_reducible exact ih1 _ _)
      | (with_reducible exact spec_l1crcOk.mono _ _)
      | (with_reducible exact spec_l1field.mono _ _)
      | (with_reducible exact spec_l1lay.mono _ _)
      | (with_reducible exact LeO.refl _)
      | (with_reducible exact LeO.none _)
      | (with_reducible refine LeO.ite ?_ ?_)
      | (with_reducible refine LeO.bind ?_ (fun _ => ?_))
      | exact ih0 _ _ _
      | exact ih1 _ _
      | exact spec_l1crcOk.mono _ _
      | exact spec_l1field.mono _ _
      | exact spec_l1lay.mono _ _
      | exact LeO.none _
      | refine LeO.ite ?_ ?_
      | refine LeO.bind ?_ (fun _ => ?_)
set_option maxHeartbeats 8000000 in
set_option maxRecDepth 100000 in
theorem spec_l1look.calls (k : Nat) (A0 : Option Addr) (c0 : Nat) (l0 : List Int) (a1 : Int) (r : Int) (w : World) (hr0 : Kd.C (Kd.int .u8) w A0 l0.length l0) (hc0 : l0.length ≤ c0) (h : spec_l1look.f k l0 a1 = some r) :
    Calls Try.prog 138 #[.slice A0 l0.length c0, .int .u8 a1] w fun e w' => e = .returned (.int .i64 r) ∧ Below w.heap.size w w' := by
  have HR0 := Aside0.mk hr0
  have HC0 := Aside0.mk hc0
  clear hr0 hc0
  have HB := Aside0.mk (Below.refl w.heap.size w)
  have H : ((spec_l1field.f k l0).bind fun t273 => (if t273 = 1 then (if a1 = 49 then (some 4) else (some 0)) else (if t273 = 11 then (if a1 = 48 then (some 4) else (some 0)) else (if t273 = 13 then (if a1 = 48 then (some 4) else ((spec_l1crcOk.f k l0).bind fun t274 => (if t274 = true then (some 0) else (some 5)))) else (if t273 = 14 then ((spec_l1lay.f k l0).bind fun bt275 => (if (wrap64 ((wrap64 ((l0.length : Int) - bt275.2)) - 18)) < 6 then (spec_l1look.j0 k a1 (wrap64 ((wrap64 ((l0.length : Int) - bt275.2)) - 18)) (a1 == 48)) else (spec_l1look.j0 k a1 (wrap64 ((wrap64 ((l0.length : Int) - bt275.2)) - 18)) false))) else (some 0)))))) = some r := h
  clear h
  replace H := Option.bind_eq_some_iff.mp H
  obtain ⟨t273, A30, H⟩ := H
  replace H : (if t273 = 1 then (if a1 = 49 then (some 4) else (some 0)) else (if t273 = 11 then (if a1 = 48 then (some 4) else (some 0)) else (if t273 = 13 then (if a1 = 48 then (some 4) else ((spec_l1crcOk.f k l0).bind fun t274 => (if t274 = true then (some 0) else (some 5)))) else (if t273 = 14 then ((spec_l1lay.f k l0).bind fun bt275 => (if (wrap64 ((wrap64 ((l0.length : Int) - bt275.2)) - 18)) < 6 then (spec_l1look.j0 k a1 (wrap64 ((wrap64 ((l0.length : Int) - bt275.2)) - 18)) (a1 == 48)) else (spec_l1look.j0 k a1 (wrap64 ((wrap64 ((l0.length : Int) - bt275.2)) - 18)) false))) else (some 0))))) = some r := H
  have A3 := Aside0.mk A30
  clear A30
  by_cases c4 : t273 = 1
  · rw [if_pos c4] at H
    have c4b0 : (t273 == 1) = true := beq_iff_eq.mpr c4
    have c4b1 : (t273 != 1) = false := bne_eq_false_iff_eq.mpr c4
    clear c4
    by_cases c5 : a1 = 49
    · rw [if_pos c5] at H
      have c5b0 : (a1 == 49) = true := beq_iff_eq.mpr c5
      have c5b1 : (a1 != 49) = false := bne_eq_false_iff_eq.mpr c5
      clear c5
      obtain rfl := Option.some.inj H
      go_enter Try.func138, Try.ntmps138
      go_wp2_with (first | ((with_reducible refine gate_callee (f := 87) rfl ?_); refine goesL_ (some 9) rfl rfl Try.func87 (by kernel_rfl) rfl #[.slice A0 l0.length c0] rfl (by (try simp only [List.map_toArray, List.map_cons, List.map_nil]); first | done | rfl | (simp only [List.length_drop, List.length_take]; rfl)) ?_; (with_reducible refine (spec_l1field.calls k _ _ l0 t273 _ ?side1 ?side2 A3.out).mono ?_); (case side1 => repeat (first | exact HR0.out | (with_reducible refine Kd.C_alloc ?_ _) | (with_reducible refine Kd.C_drewN ?_ _) | (with_reducible refine Kd.C_drew ?_))); (case side2 => exact HC0.out); rintro e w' ⟨rfl, ⟨nd, rfl⟩⟩; refine ⟨_, rfl, ?_⟩))
      go_ret
      exact ⟨by first | rfl | (simp [errW_none, errW_some] <;> rfl) | (simp [*, errW_none, errW_some] <;> rfl), by repeat (first | (with_reducible first | exact HB.out | apply below_alloc | apply pw_below_drewN | apply below_drew1) | exact HB.out)⟩
    · rw [if_neg c5] at H
      have c5b0 : (a1 == 49) = false := beq_eq_false_iff_ne.mpr c5
      have c5b1 : (a1 != 49) = true := bne_iff_ne.mpr c5
      obtain rfl := Option.some.inj H
      go_enter Try.func138, Try.ntmps138
      go_wp2_with (first | ((with_reducible refine gate_callee (f := 87) rfl ?_); refine goesL_ (some 9) rfl rfl Try.func87 (by kernel_rfl) rfl #[.slice A0 l0.length c0] rfl (by (try simp only [List.map_toArray, List.map_cons, List.map_nil]); first | done | rfl | (simp only [List.length_drop, List.length_take]; rfl)) ?_; (with_reducible refine (spec_l1field.calls k _ _ l0 t273 _ ?side1 ?side2 A3.out).mono ?_); (case side1 => repeat (first | exact HR0.out | (with_reducible refine Kd.C_alloc ?_ _) | (with_reducible refine Kd.C_drewN ?_ _) | (with_reducible refine Kd.C_drew ?_))); (case side2 => exact HC0.out); rintro e w' ⟨rfl, ⟨nd, rfl⟩⟩; refine ⟨_, rfl, ?_⟩))
      go_ret
      exact ⟨by first | rfl | (simp [errW_none, errW_some] <;> rfl) | (simp [*, errW_none, errW_some] <;> rfl), by repeat (first | (with_reducible first | exact HB.out | apply below_alloc | apply pw_below_drewN | apply below_drew1) | exact HB.out)⟩
  · rw [if_neg c4] at H
    have c4b0 : (t273 == 1) = false := beq_eq_false_iff_ne.mpr c4
    have c4b1 : (t273 != 1) = true := bne_iff_ne.mpr c4
    by_cases c6 : t273 = 11
    · rw [if_pos c6] at H
      have c6b0 : (t273 == 11) = true := beq_iff_eq.mpr c6
      have c6b1 : (t273 != 11) = false := bne_eq_false_iff_eq.mpr c6
      clear c6
      by_cases c7 : a1 = 48
      · rw [if_pos c7] at H
        have c7b0 : (a1 == 48) = true := beq_iff_eq.mpr c7
        have c7b1 : (a1 != 48) = false := bne_eq_false_iff_eq.mpr c7
        clear c7
        obtain rfl := Option.some.inj H
        go_enter Try.func138, Try.ntmps138
        go_wp2_with (first | ((with_reducible refine gate_callee (f := 87) rfl ?_); refine goesL_ (some 9) rfl rfl Try.func87 (by kernel_rfl) rfl #[.slice A0 l0.length c0] rfl (by (try simp only [List.map_toArray, List.map_cons, List.map_nil]); first | done | rfl | (simp only [List.length_drop, List.length_take]; rfl)) ?_; (with_reducible refine (spec_l1field.calls k _ _ l0 t273 _ ?side1 ?side2 A3.out).mono ?_); (case side1 => repeat (first | exact HR0.out | (with_reducible refine Kd.C_alloc ?_ _) | (with_reducible refine Kd.C_drewN ?_ _) | (with_reducible refine Kd.C_drew ?_))); (case side2 => exact HC0.out); rintro e w' ⟨rfl, ⟨nd, rfl⟩⟩; refine ⟨_, rfl, ?_⟩))
        go_ret
        exact ⟨by first | rfl | (simp [errW_none, errW_some] <;> rfl) | (simp [*, errW_none, errW_some] <;> rfl), by repeat (first | (with_reducible first | exact HB.out | apply below_alloc | apply pw_below_drewN | apply below_drew1) | exact HB.out)⟩
      · rw [if_neg c7] at H
        have c7b0 : (a1 == 48) = false := beq_eq_false_iff_ne.mpr c7
        have c7b1 : (a1 != 48) = true := bne_iff_ne.mpr c7
        obtain rfl := Option.some.inj H
        go_enter Try.func138, Try.ntmps138
        go_wp2_with (first | ((with_reducible refine gate_callee (f := 87) rfl ?_); refine goesL_ (some 9) rfl rfl Try.func87 (by kernel_rfl) rfl #[.slice A0 l0.length c0] rfl (by (try simp only [List.map_toArray, List.map_cons, List.map_nil]); first | done | rfl | (simp only [List.length_drop, List.length_take]; rfl)) ?_; (with_reducible refine (spec_l1field.calls k _ _ l0 t273 _ ?side1 ?side2 A3.out).mono ?_); (case side1 => repeat (first | exact HR0.out | (with_reducible refine Kd.C_alloc ?_ _) | (with_reducible refine Kd.C_drewN ?_ _) | (with_reducible refine Kd.C_drew ?_))); (case side2 => exact HC0.out); rintro e w' ⟨rfl, ⟨nd, rfl⟩⟩; refine ⟨_, rfl, ?_⟩))
        go_ret
        exact ⟨by first | rfl | (simp [errW_none, errW_some] <;> rfl) | (simp [*, errW_none, errW_some] <;> rfl), by repeat (first | (with_reducible first | exact HB.out | apply below_alloc | apply pw_below_drewN | apply below_drew1) | exact HB.out)⟩
    · rw [if_neg c6] at H
      have c6b0 : (t273 == 11) = false := beq_eq_false_iff_ne.mpr c6
      have c6b1 : (t273 != 11) = true := bne_iff_ne.mpr c6
      by_cases c8 : t273 = 13
      · rw [if_pos c8] at H
        have c8b0 : (t273 == 13) = true := beq_iff_eq.mpr c8
        have c8b1 : (t273 != 13) = false := bne_eq_false_iff_eq.mpr c8
        clear c8
        by_cases c9 : a1 = 48
        · rw [if_pos c9] at H
          have c9b0 : (a1 == 48) = true := beq_iff_eq.mpr c9
          have c9b1 : (a1 != 48) = false := bne_eq_false_iff_eq.mpr c9
          clear c9
          obtain rfl := Option.some.inj H
          go_enter Try.func138, Try.ntmps138
          go_wp2_with (first | ((with_reducible refine gate_callee (f := 87) rfl ?_); refine goesL_ (some 9) rfl rfl Try.func87 (by kernel_rfl) rfl #[.slice A0 l0.length c0] rfl (by (try simp only [List.map_toArray, List.map_cons, List.map_nil]); first | done | rfl | (simp only [List.length_drop, List.length_take]; rfl)) ?_; (with_reducible refine (spec_l1field.calls k _ _ l0 t273 _ ?side1 ?side2 A3.out).mono ?_); (case side1 => repeat (first | exact HR0.out | (with_reducible refine Kd.C_alloc ?_ _) | (with_reducible refine Kd.C_drewN ?_ _) | (with_reducible refine Kd.C_drew ?_))); (case side2 => exact HC0.out); rintro e w' ⟨rfl, ⟨nd, rfl⟩⟩; refine ⟨_, rfl, ?_⟩))
          go_ret
          exact ⟨by first | rfl | (simp [errW_none, errW_some] <;> rfl) | (simp [*, errW_none, errW_some] <;> rfl), by repeat (first | (with_reducible first | exact HB.out | apply below_alloc | apply pw_below_drewN | apply below_drew1) | exact HB.out)⟩
        · rw [if_neg c9] at H
          have c9b0 : (a1 == 48) = false := beq_eq_false_iff_ne.mpr c9
          have c9b1 : (a1 != 48) = true := bne_iff_ne.mpr c9
          replace H := Option.bind_eq_some_iff.mp H
          obtain ⟨t274, A100, H⟩ := H
          replace H : (if t274 = true then (some 0) else (some 5)) = some r := H
          have A10 := Aside0.mk A100
          clear A100
          by_cases c11 : t274 = true
          · subst c11
            have H1 : (some 0) = some r := by rw [if_pos rfl] at H; exact H
            clear H
            have H := H1
            clear H1
            obtain rfl := Option.some.inj H
            go_enter Try.func138, Try.ntmps138
            go_wp2_with (first | ((with_reducible refine gate_callee (f := 87) rfl ?_); refine goesL_ (some 9) rfl rfl Try.func87 (by kernel_rfl) rfl #[.slice A0 l0.length c0] rfl (by (try simp only [List.map_toArray, List.map_cons, List.map_nil]); first | done | rfl | (simp only [List.length_drop, List.length_take]; rfl)) ?_; (with_reducible refine (spec_l1field.calls k _ _ l0 t273 _ ?side1 ?side2 A3.out).mono ?_); (case side1 => repeat (first | exact HR0.out | (with_reducible refine Kd.C_alloc ?_ _) | (with_reducible refine Kd.C_drewN ?_ _) | (with_reducible refine Kd.C_drew ?_))); (case side2 => exact HC0.out); rintro e w' ⟨rfl, ⟨nd, rfl⟩⟩; refine ⟨_, rfl, ?_⟩) | ((with_reducible refine gate_callee (f := 88) rfl ?_); refine goesL_ (some 23) rfl rfl Try.func88 (by kernel_rfl) rfl #[.slice A0 l0.length c0] rfl (by (try simp only [List.map_toArray, List.map_cons, List.map_nil]); first | done | rfl | (simp only [List.length_drop, List.length_take]; rfl)) ?_; (with_reducible refine (spec_l1crcOk.calls k _ _ l0 true _ ?side1 ?side2 A10.out).mono ?_); (case side1 => repeat (first | exact HR0.out | (with_reducible refine Kd.C_alloc ?_ _) | (with_reducible refine Kd.C_drewN ?_ _) | (with_reducible refine Kd.C_drew ?_))); (case side2 => exact HC0.out); rintro e w12 ⟨rfl, hb⟩; refine ⟨_, rfl, ?_⟩; have n0_ := Aside0.mk (below_step (by repeat (first | (with_reducible first | exact HB.out | apply below_alloc | apply pw_below_drewN | apply below_drew1) | exact HB.out)) hb); clear HB; have HB := n0_; clear n0_; (try clear hb); (try clear hb2); (try clear hk); (try clear hi)))
            go_ret
            exact ⟨by first | rfl | (simp [errW_none, errW_some] <;> rfl) | (simp [*, errW_none, errW_some] <;> rfl), by repeat (first | (with_reducible first | exact HB.out | apply below_alloc | apply pw_below_drewN | apply below_drew1) | exact HB.out)⟩
          · replace c11 := Bool.eq_false_iff.mpr c11
            subst c11
            have H1 : (some 5) = some r := by rw [if_neg (show ¬ (false = true) by decide)] at H; exact H
            clear H
            have H := H1
            clear H1
            obtain rfl := Option.some.inj H
            go_enter Try.func138, Try.ntmps138
            go_wp2_with (first | ((with_reducible refine gate_callee (f := 87) rfl ?_); refine goesL_ (some 9) rfl rfl Try.func87 (by kernel_rfl) rfl #[.slice A0 l0.length c0] rfl (by (try simp only [List.map_toArray, List.map_cons, List.map_nil]); first | done | rfl | (simp only [List.length_drop, List.length_take]; rfl)) ?_; (with_reducible refine (spec_l1field.calls k _ _ l0 t273 _ ?side1 ?side2 A3.out).mono ?_); (case side1 => repeat (first | exact HR0.out | (with_reducible refine Kd.C_alloc ?_ _) | (with_reducible refine Kd.C_drewN ?_ _) | (with_reducible refine Kd.C_drew ?_))); (case side2 => exact HC0.out); rintro e w' ⟨rfl, ⟨nd, rfl⟩⟩; refine ⟨_, rfl, ?_⟩) | ((with_reducible refine gate_callee (f := 88) rfl ?_); refine goesL_ (some 23) rfl rfl Try.func88 (by kernel_rfl) rfl #[.slice A0 l0.length c0] rfl (by (try simp only [List.map_toArray, List.map_cons, List.map_nil]); first | done | rfl | (simp only [List.length_drop, List.length_take]; rfl)) ?_; (with_reducible refine (spec_l1crcOk.calls k _ _ l0 false _ ?side1 ?side2 A10.out).mono ?_); (case side1 => repeat (first | exact HR0.out | (with_reducible refine Kd.C_alloc ?_ _) | (with_reducible refine Kd.C_drewN ?_ _) | (with_reducible refine Kd.C_drew ?_))); (case side2 => exact HC0.out); rintro e w13 ⟨rfl, hb⟩; refine ⟨_, rfl, ?_⟩; have n0_ := Aside0.mk (below_step (by repeat (first | (with_reducible first | exact HB.out | apply below_alloc | apply pw_below_drewN | apply below_drew1) | exact HB.out)) hb); clear HB; have HB := n0_; clear n0_; (try clear hb); (try clear hb2); (try clear hk); (try clear hi)))
            go_ret
            exact ⟨by first | rfl | (simp [errW_none, errW_some] <;> rfl) | (simp [*, errW_none, errW_some] <;> rfl), by repeat (first | (with_reducible first | exact HB.out | apply below_alloc | apply pw_below_drewN | apply below_drew1) | exact HB.out)⟩
      · rw [if_neg c8] at H
        have c8b0 : (t273 == 13) = false := beq_eq_false_iff_ne.mpr c8
        have c8b1 : (t273 != 13) = true := bne_iff_ne.mpr c8
        by_cases c14 : t273 = 14
        · rw [if_pos c14] at H
          have c14b0 : (t273 == 14) = true := beq_iff_eq.mpr c14
          have c14b1 : (t273 != 14) = false := bne_eq_false_iff_eq.mpr c14
          clear c14
          replace H := Option.bind_eq_some_iff.mp H
          obtain ⟨⟨t275, t276⟩, A150, H⟩ := H
          replace H : (if (wrap64 ((wrap64 ((l0.length : Int) - t276)) - 18)) < 6 then (spec_l1look.j0 k a1 (wrap64 ((wrap64 ((l0.length : Int) - t276)) - 18)) (a1 == 48)) else (spec_l1look.j0 k a1 (wrap64 ((wrap64 ((l0.length : Int) - t276)) - 18)) false)) = some r := H
          have A15 := Aside0.mk A150
          clear A150
          have HC16 := Aside0.mk H
          clear H
          go_enter Try.func138, Try.ntmps138
          go_upto_region 16 with (first | ((with_reducible refine gate_callee (f := 87) rfl ?_); refine goesL_ (some 9) rfl rfl Try.func87 (by kernel_rfl) rfl #[.slice A0 l0.length c0] rfl (by (try simp only [List.map_toArray, List.map_cons, List.map_nil]); first | done | rfl | (simp only [List.length_drop, List.length_take]; rfl)) ?_; (with_reducible refine (spec_l1field.calls k _ _ l0 t273 _ ?side1 ?side2 A3.out).mono ?_); (case side1 => repeat (first | exact HR0.out | (with_reducible refine Kd.C_alloc ?_ _) | (with_reducible refine Kd.C_drewN ?_ _) | (with_reducible refine Kd.C_drew ?_))); (case side2 => exact HC0.out); rintro e w' ⟨rfl, ⟨nd, rfl⟩⟩; refine ⟨_, rfl, ?_⟩) | ((with_reducible refine gate_callee (f := 102) rfl ?_); refine goesL_ (some 29) rfl rfl Try.func102 (by kernel_rfl) rfl #[.slice A0 l0.length c0] rfl (by (try simp only [List.map_toArray, List.map_cons, List.map_nil]); first | done | rfl | (simp only [List.length_drop, List.length_take]; rfl)) ?_; (with_reducible refine (spec_l1lay.calls k _ _ l0 t275 t276 _ ?side1 ?side2 A15.out).mono ?_); (case side1 => repeat (first | exact HR0.out | (with_reducible refine Kd.C_alloc ?_ _) | (with_reducible refine Kd.C_drewN ?_ _) | (with_reducible refine Kd.C_drew ?_))); (case side2 => exact HC0.out); rintro e w' ⟨rfl, ⟨nd, rfl⟩⟩; refine ⟨_, rfl, ?_⟩))
          (try simp only [Act.put, List.setIfInBounds_toArray, List.set_cons_zero, List.set_cons_succ])
          go_cut [42] (fun v42 wc => ∃ (kq : Nat) (x42_15 : Bool), v42 = .bool x42_15 ∧ Aside0 (spec_l1look.j0 kq a1 (wrap64 ((wrap64 ((l0.length : Int) - t276)) - 18)) x42_15 = some r) ∧ Aside0 (kq ≤ k) ∧ Aside0 (Below w.heap.size w wc))
          case first =>
            have H := HC16.out
            clear HC16
            by_cases c17 : (wrap64 ((wrap64 ((l0.length : Int) - t276)) - 18)) < 6
            · rw [if_pos c17] at H
              have c17b0 : decide ((wrap64 ((wrap64 ((l0.length : Int) - t276)) - 18)) < 6) = true := decide_eq_true c17
              clear c17
              (first | rw [c17b0] | (simp only [i64_w, i32_w]; rw [c17b0]) | skip)
              have H' := Aside0.mk H
              clear H
              go_wp2
              go_meet
              case rel => exact ⟨_, ((a1 == 48)), (by first | rfl | (simp; done) | (simp [*]; done)), H', ⟨by first | omega | exact Nat.le_refl _⟩, ⟨by repeat (first | (with_reducible first | exact HB.out | apply below_alloc | apply pw_below_drewN | apply below_drew1) | exact HB.out)⟩⟩
            · rw [if_neg c17] at H
              have c17b0 : decide ((wrap64 ((wrap64 ((l0.length : Int) - t276)) - 18)) < 6) = false := decide_eq_false c17
              clear c17
              (first | rw [c17b0] | (simp only [i64_w, i32_w]; rw [c17b0]) | skip)
              have H' := Aside0.mk H
              clear H
              go_wp2
              go_meet
              case rel => exact ⟨_, (false), (by first | rfl | (simp; done) | (simp [*]; done)), H', ⟨by first | omega | exact Nat.le_refl _⟩, ⟨by repeat (first | (with_reducible first | exact HB.out | apply below_alloc | apply pw_below_drewN | apply below_drew1) | exact HB.out)⟩⟩
          case rest =>
            clear HC16
            try clear c1
            try clear p2
            try clear c4
            try clear c4b0
            try clear c4b1
            try clear c5
            try clear c5b0
            try clear c5b1
            try clear c6
            try clear c6b0
            try clear c6b1
            try clear p6
            try clear c7
            try clear c7b0
            try clear c7b1
            try clear c8
            try clear c8b0
            try clear c8b1
            try clear c9
            try clear c9b0
            try clear c9b1
            try clear c10
            try clear c11
            try clear c13
            try clear c14
            try clear c14b0
            try clear c14b1
            try clear c17
            try clear c17b0
            obtain ⟨kq, x42_15, rfl, HA, HJ15, HB⟩ := hcut
            cases kq with
            | zero => exact absurd HA.out (by simp [spec_l1look.j0])
            | succ kj15 =>
              have H := HA.out
              clear HA
              simp only [spec_l1look.j0] at H
              by_cases c18 : x42_15 = true
              · subst c18
                have H1 : (some 4) = some r := by rw [if_pos rfl] at H; exact H
                clear H
                have H := H1
                clear H1
                obtain rfl := Option.some.inj H
                go_wp2
                go_ret
                exact ⟨by first | rfl | (simp [errW_none, errW_some] <;> rfl) | (simp [*, errW_none, errW_some] <;> rfl), by repeat (first | (with_reducible first | exact HB.out | apply below_alloc | apply pw_below_drewN | apply below_drew1) | exact HB.out)⟩
              · replace c18 := Bool.eq_false_iff.mpr c18
                subst c18
                have H1 : (if (wrap64 ((wrap64 ((l0.length : Int) - t276)) - 18)) = 5 then (some 1) else (if (wrap64 ((wrap64 ((l0.length : Int) - t276)) - 18)) = 6 then (spec_l1look.j1 kj15 (wrap64 ((wrap64 ((l0.length : Int) - t276)) - 18)) (a1 == 48)) else (spec_l1look.j1 kj15 (wrap64 ((wrap64 ((l0.length : Int) - t276)) - 18)) false))) = some r := by rw [if_neg (show ¬ (false = true) by decide)] at H; exact H
                clear H
                have H := H1
                clear H1
                by_cases c19 : (wrap64 ((wrap64 ((l0.length : Int) - t276)) - 18)) = 5
                · rw [if_pos c19] at H
                  have c19b0 : ((wrap64 ((wrap64 ((l0.length : Int) - t276)) - 18)) == 5) = true := beq_iff_eq.mpr c19
                  have c19b1 : ((wrap64 ((wrap64 ((l0.length : Int) - t276)) - 18)) != 5) = false := bne_eq_false_iff_eq.mpr c19
                  clear c19
                  obtain rfl := Option.some.inj H
                  go_wp2
                  go_ret
                  exact ⟨by first | rfl | (simp [errW_none, errW_some] <;> rfl) | (simp [*, errW_none, errW_some] <;> rfl), by repeat (first | (with_reducible first | exact HB.out | apply below_alloc | apply pw_below_drewN | apply below_drew1) | exact HB.out)⟩
                · rw [if_neg c19] at H
                  have c19b0 : ((wrap64 ((wrap64 ((l0.length : Int) - t276)) - 18)) == 5) = false := beq_eq_false_iff_ne.mpr c19
                  have c19b1 : ((wrap64 ((wrap64 ((l0.length : Int) - t276)) - 18)) != 5) = true := bne_iff_ne.mpr c19
                  have HC20 := Aside0.mk H
                  clear H
                  go_upto_region 20 with (fail)
                  go_cut [50] (fun v50 wc => ∃ (kq : Nat) (x50_19 : Bool), v50 = .bool x50_19 ∧ Aside0 (spec_l1look.j1 kq (wrap64 ((wrap64 ((l0.length : Int) - t276)) - 18)) x50_19 = some r) ∧ Aside0 (kq ≤ kj15) ∧ Aside0 (Below w.heap.size w wc))
                  case first =>
                    have H := HC20.out
                    clear HC20
                    by_cases c21 : (wrap64 ((wrap64 ((l0.length : Int) - t276)) - 18)) = 6
                    · rw [if_pos c21] at H
                      have c21b0 : ((wrap64 ((wrap64 ((l0.length : Int) - t276)) - 18)) == 6) = true := beq_iff_eq.mpr c21
                      have c21b1 : ((wrap64 ((wrap64 ((l0.length : Int) - t276)) - 18)) != 6) = false := bne_eq_false_iff_eq.mpr c21
                      clear c21
                      (first | rw [c21b0] | (simp only [i64_w, i32_w]; rw [c21b0]) | skip)
                      have H' := Aside0.mk H
                      clear H
                      go_wp2
                      go_meet
                      case rel => exact ⟨_, ((a1 == 48)), (by first | rfl | (simp; done) | (simp [*]; done)), H', ⟨by have := HJ15.out; first | omega | exact Nat.le_refl _⟩, ⟨by repeat (first | (with_reducible first | exact HB.out | apply below_alloc | apply pw_below_drewN | apply below_drew1) | exact HB.out)⟩⟩
                    · rw [if_neg c21] at H
                      have c21b0 : ((wrap64 ((wrap64 ((l0.length : Int) - t276)) - 18)) == 6) = false := beq_eq_false_iff_ne.mpr c21
                      have c21b1 : ((wrap64 ((wrap64 ((l0.length : Int) - t276)) - 18)) != 6) = true := bne_iff_ne.mpr c21
                      (first | rw [c21b0] | (simp only [i64_w, i32_w]; rw [c21b0]) | skip)
                      have H' := Aside0.mk H
                      clear H
                      go_wp2
                      go_meet
                      case rel => exact ⟨_, (false), (by first | rfl | (simp; done) | (simp [*]; done)), H', ⟨by have := HJ15.out; first | omega | exact Nat.le_refl _⟩, ⟨by repeat (first | (with_reducible first | exact HB.out | apply below_alloc | apply pw_below_drewN | apply below_drew1) | exact HB.out)⟩⟩
                  case rest =>
                    clear HC20
                    try clear c1
                    try clear c2
                    try clear p2
                    try clear c4
                    try clear c4b0
                    try clear c4b1
                    try clear c5
                    try clear c5b0
                    try clear c5b1
                    try clear c6
                    try clear c6b0
                    try clear c6b1
                    try clear p6
                    try clear c7
                    try clear c7b0
                    try clear c7b1
                    try clear c8
                    try clear c8b0
                    try clear c8b1
                    try clear c9
                    try clear c9b0
                    try clear c9b1
                    try clear c10
                    try clear c11
                    try clear c13
                    try clear c14
                    try clear c14b0
                    try clear c14b1
                    try clear c17
                    try clear c17b0
                    try clear c18
                    try clear c19
                    try clear c19b0
                    try clear c19b1
                    try clear c21
                    try clear c21b0
                    try clear c21b1
                    try clear p2
                    try clear p6
                    obtain ⟨kq, x50_19, rfl, HA, HJ19, HB⟩ := hcut
                    cases kq with
                    | zero => exact absurd HA.out (by simp [spec_l1look.j1])
                    | succ kj19 =>
                      have H := HA.out
                      clear HA
                      simp only [spec_l1look.j1] at H
                      by_cases c22 : x50_19 = true
                      · subst c22
                        have H1 : (some 6) = some r := by rw [if_pos rfl] at H; exact H
                        clear H
                        have H := H1
                        clear H1
                        obtain rfl := Option.some.inj H
                        go_wp2
                        go_ret
                        exact ⟨by first | rfl | (simp [errW_none, errW_some] <;> rfl) | (simp [*, errW_none, errW_some] <;> rfl), by repeat (first | (with_reducible first | exact HB.out | apply below_alloc | apply pw_below_drewN | apply below_drew1) | exact HB.out)⟩
                      · replace c22 := Bool.eq_false_iff.mpr c22
                        subst c22
                        have H1 : (if (wrap64 ((wrap64 ((l0.length : Int) - t276)) - 18)) = 6 then (some 2) else (some 0)) = some r := by rw [if_neg (show ¬ (false = true) by decide)] at H; exact H
                        clear H
                        have H := H1
                        clear H1
                        by_cases c23 : (wrap64 ((wrap64 ((l0.length : Int) - t276)) - 18)) = 6
                        · rw [if_pos c23] at H
                          have c23b0 : ((wrap64 ((wrap64 ((l0.length : Int) - t276)) - 18)) == 6) = true := beq_iff_eq.mpr c23
                          have c23b1 : ((wrap64 ((wrap64 ((l0.length : Int) - t276)) - 18)) != 6) = false := bne_eq_false_iff_eq.mpr c23
                          clear c23
                          obtain rfl := Option.some.inj H
                          go_wp2
                          go_ret
                          exact ⟨by first | rfl | (simp [errW_none, errW_some] <;> rfl) | (simp [*, errW_none, errW_some] <;> rfl), by repeat (first | (with_reducible first | exact HB.out | apply below_alloc | apply pw_below_drewN | apply below_drew1) | exact HB.out)⟩
                        · rw [if_neg c23] at H
                          have c23b0 : ((wrap64 ((wrap64 ((l0.length : Int) - t276)) - 18)) == 6) = false := beq_eq_false_iff_ne.mpr c23
                          have c23b1 : ((wrap64 ((wrap64 ((l0.length : Int) - t276)) - 18)) != 6) = true := bne_iff_ne.mpr c23
                          obtain rfl := Option.some.inj H
                          go_wp2
                          go_ret
                          exact ⟨by first | rfl | (simp [errW_none, errW_some] <;> rfl) | (simp [*, errW_none, errW_some] <;> rfl), by repeat (first | (with_reducible first | exact HB.out | apply below_alloc | apply pw_below_drewN | apply below_drew1) | exact HB.out)⟩
        · rw [if_neg c14] at H
          have c14b0 : (t273 == 14) = false := beq_eq_false_iff_ne.mpr c14
          have c14b1 : (t273 != 14) = true := bne_iff_ne.mpr c14
          obtain rfl := Option.some.inj H
          go_enter Try.func138, Try.ntmps138
          go_wp2_with (first | ((with_reducible refine gate_callee (f := 87) rfl ?_); refine goesL_ (some 9) rfl rfl Try.func87 (by kernel_rfl) rfl #[.slice A0 l0.length c0] rfl (by (try simp only [List.map_toArray, List.map_cons, List.map_nil]); first | done | rfl | (simp only [List.length_drop, List.length_take]; rfl)) ?_; (with_reducible refine (spec_l1field.calls k _ _ l0 t273 _ ?side1 ?side2 A3.out).mono ?_); (case side1 => repeat (first | exact HR0.out | (with_reducible refine Kd.C_alloc ?_ _) | (with_reducible refine Kd.C_drewN ?_ _) | (with_reducible refine Kd.C_drew ?_))); (case side2 => exact HC0.out); rintro e w' ⟨rfl, ⟨nd, rfl⟩⟩; refine ⟨_, rfl, ?_⟩))
          go_ret
          exact ⟨by first | rfl | (simp [errW_none, errW_some] <;> rfl) | (simp [*, errW_none, errW_some] <;> rfl), by repeat (first | (with_reducible first | exact HB.out | apply below_alloc | apply pw_below_drewN | apply below_drew1) | exact HB.out)⟩

end Go.Proofs.Ytdoclpgciadjaaa.P
