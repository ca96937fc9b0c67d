/- Texts of the proof of FnExactDecode, joined. -/
import Derived.Test.YtdoclpgciadjaaaSFnExactDecode21
import Derived.Test.YtdoclpgciadjaaaSFnExactDecode23
import Derived.Test.YtdoclpgciadjaaaSFnExactDecode22
namespace Go.Proofs.Ytdoclpgciadjaaa.P
open Go.RowKit Go.Proofs.YtdoclpgciadjaaaW.PrintWords Go.Proofs.YtdoclpgciadjaaaW.PrintLast Go.Proofs.YtdoclpgciadjaaaW.PrintMore
set_option linter.unusedVariables false
set_option linter.unusedSimpArgs false
def spec_l1crcOk.j0 : Nat → List Int → Int → Bool → Option (Bool)
  | 0, _, _, _ => none
  | k + 1, x0, x4, x18 => if x18 = true then (some false) else (if 0 ≤ x4 then (if x4 ≤ (x0.length : Int) then ((spec_Crc15.f k (strOfNums (x0.take (x4 : Int).toNat))).bind fun t172 => (if x4 ≤ (wrap64 (x4 + 15)) then (if (wrap64 (x4 + 15)) ≤ (x0.length : Int) then ((spec_l1val.f k (strOfNums ((x0.take ((wrap64 (x4 + 15)) : Int).toNat).drop (x4 : Int).toNat))).bind fun t174 => (some (t172 == t174))) else (none)) else (none))) else (none)) else (none))
def spec_l1crcOk.f (k : Nat) (l0 : List Int) : Option (Bool) := (spec_l1lay.f k l0).bind fun bt169 => (if bt169.2 = 0 then (spec_l1crcOk.j0 k l0 bt169.2 true) else (spec_l1crcOk.j0 k l0 bt169.2 (decide ((l0.length : Int) < (wrap64 (bt169.2 + 15))))))
theorem spec_l1crcOk.mono_l : ∀ k, (∀ y0 y1 y2, LeO (spec_l1crcOk.j0 k y0 y1 y2) (spec_l1crcOk.j0 (k + 1) y0 y1 y2))
  | 0 => fun _ _ _ r h => by simp [spec_l1crcOk.j0] at h
  | k + 1 => by
    have ih0 := spec_l1crcOk.mono_l k
    · intro y0 y1 y2
      unfold spec_l1crcOk.j0
      repeat' first
      | (with_reducible exact ih0 _ _ _)
      | (with_reducible exact spec_Crc15.mono _ _)
      | (with_reducible exact spec_l1lay.mono _ _)
      | (with_reducible exact spec_l1val.mono _ _)
      | (with_reducible exact LeO.refl _)
      | (with_reducible exact LeO.none _)
      | (with_reducible refine LeO.ite ?_ ?_)
      | (with_reducible refine LeO.bind ?_ (fun _ => ?_))
      | exact ih0 _ _ _
      | exact spec_Crc15.mono _ _
      | exact spec_l1lay.mono _ _
      | exact spec_l1val.mono _ _
      | exact LeO.none _
      | refine LeO.ite ?_ ?_
      | refine LeO.bind ?_ (fun _ => ?_)
theorem spec_l1crcOk.mono : ∀ a0 k, LeO (spec_l1crcOk.f k a0) (spec_l1crcOk.f (k + 1) a0) := by
  intro a0 k
  have ih0 := spec_l1crcOk.mono_l k
  unfold spec_l1crcOk.f
  repeat' first
      | (with_reducible exact ih0 _ _ _)
      | (with_reducible exact spec_Crc15.mono _ _)
      | (with_reducible exact spec_l1lay.mono _ _)
      | (with_reducible exact spec_l1val.mono _ _)
      | (with_reducible exact LeO.refl _)
      | (with_reducible exact LeO.none _)
      | (with_reducible refine LeO.ite ?_ ?_)
      | (with_reducible refine LeO.bind ?_ (fun _ => ?_))
      | exact ih0 _ _ _
      | exact spec_Crc15.mono _ _
      | exact spec_l1lay.mono _ _
      | exact spec_l1val.mono _ _
      | exact LeO.none _
      | refine LeO.ite ?_ ?_
      | refine LeO.bind ?_ (fun _ => ?_)
def spec_l1crcOk.T4 : Bool × List (List Nat × List Nat) := (true, [([], []), ([], []), ([0, 1], [0, 1]), ([2], [2]), ([3], [3]), ([], []), ([], []), ([], []), ([7], [7]), ([5, 6, 8], [5, 6, 8]), ([9], [9]), ([10, 4], [10]), ([4, 11], [4, 11]), ([12, 11, 0, 1, 2, 3, 4, 5, 6, 7, 8, 9, 10, 11, 12], [12])])
def spec_l1crcOk.B4 : List Nat := [0, 0, 3, 7, 15, 0, 0, 0, 128, 480, 992, 2047, 4095, 8191]
theorem spec_l1crcOk.tab4 : rtab .any (opsOf Try.f88 4) = spec_l1crcOk.T4 := by kernel_rfl
theorem spec_l1crcOk.bits4 : waitsOk spec_l1crcOk.T4.2 spec_l1crcOk.B4 = true := by kernel_rfl
set_option maxHeartbeats 8000000 in
set_option maxRecDepth 100000 in
theorem spec_l1crcOk.calls (k : Nat) (A0 : Option Addr) (c0 : Nat) (l0 : List Int) (r : Bool) (w : World) (hr0 : Kd.C (Kd.int .u8) w A0 l0.length l0) (hc0 : l0.length ≤ c0) (h : spec_l1crcOk.f k l0 = some r) :
    Calls Try.prog 88 #[.slice A0 l0.length c0] w fun e w' => e = .returned (.bool r) ∧ Below w.heap.size w w' := by
  have HR0 := Aside0.mk hr0
  have HC0 := Aside0.mk hc0
  clear hr0 hc0
  have HB := Aside0.mk (Below.refl w.heap.size w)
  have H : ((spec_l1lay.f k l0).bind fun bt169 => (if bt169.2 = 0 then (spec_l1crcOk.j0 k l0 bt169.2 true) else (spec_l1crcOk.j0 k l0 bt169.2 (decide ((l0.length : Int) < (wrap64 (bt169.2 + 15))))))) = some r := h
  clear h
  replace H := Option.bind_eq_some_iff.mp H
  obtain ⟨⟨t169, t170⟩, A20, H⟩ := H
  replace H : (if t170 = 0 then (spec_l1crcOk.j0 k l0 t170 true) else (spec_l1crcOk.j0 k l0 t170 (decide ((l0.length : Int) < (wrap64 (t170 + 15)))))) = some r := H
  have A2 := Aside0.mk A20
  clear A20
  have HC3 := Aside0.mk H
  clear H
  go_enter Try.func88, Try.ntmps88
  go_upto_region 2 with (first | ((with_reducible refine gate_callee (f := 102) rfl ?_); refine goesL_ (some 7) rfl rfl Try.func102 (by kernel_rfl) rfl #[.slice A0 l0.length c0] rfl (by (try simp only [List.map_toArray, List.map_cons, List.map_nil]); first | done | rfl | (simp only [List.length_drop, List.length_take]; rfl)) ?_; (with_reducible refine (spec_l1lay.calls k _ _ l0 t169 t170 _ ?side1 ?side2 A2.out).mono ?_); (case side1 => repeat (first | exact HR0.out | (with_reducible refine Kd.C_alloc ?_ _) | (with_reducible refine Kd.C_drewN ?_ _) | (with_reducible refine Kd.C_drew ?_))); (case side2 => exact HC0.out); rintro e w' ⟨rfl, ⟨nd, rfl⟩⟩; refine ⟨_, rfl, ?_⟩))
  (try simp only [Act.put, List.setIfInBounds_toArray, List.set_cons_zero, List.set_cons_succ])
  go_cut [18] (fun v18 wc => ∃ (kq : Nat) (x18_2 : Bool), v18 = .bool x18_2 ∧ Aside0 (spec_l1crcOk.j0 kq l0 t170 x18_2 = some r) ∧ Aside0 (kq ≤ k) ∧ Aside0 (Below w.heap.size w wc))
  case first =>
    have H := HC3.out
    clear HC3
    by_cases c4 : t170 = 0
    · rw [if_pos c4] at H
      have c4b0 : (t170 == 0) = true := beq_iff_eq.mpr c4
      have c4b1 : (t170 != 0) = false := bne_eq_false_iff_eq.mpr c4
      clear c4
      (first | rw [c4b0] | (simp only [i64_w, i32_w]; rw [c4b0]) | skip)
      have H' := Aside0.mk H
      clear H
      go_wp2
      go_meet
      case rel => exact ⟨_, (true), (by first | rfl | (simp; done) | (simp [*]; done)), H', ⟨by first | omega | exact Nat.le_refl _⟩, ⟨by repeat (first | (with_reducible first | exact HB.out | apply below_alloc | apply pw_below_drewN | apply below_drew1) | exact HB.out)⟩⟩
    · rw [if_neg c4] at H
      have c4b0 : (t170 == 0) = false := beq_eq_false_iff_ne.mpr c4
      have c4b1 : (t170 != 0) = true := bne_iff_ne.mpr c4
      (first | rw [c4b0] | (simp only [i64_w, i32_w]; rw [c4b0]) | skip)
      have H' := Aside0.mk H
      clear H
      go_wp2
      go_meet
      case rel => exact ⟨_, (decide ((l0.length : Int) < (wrap64 (t170 + 15)))), (by first | rfl | (simp; done) | (simp [*]; done)), H', ⟨by first | omega | exact Nat.le_refl _⟩, ⟨by repeat (first | (with_reducible first | exact HB.out | apply below_alloc | apply pw_below_drewN | apply below_drew1) | exact HB.out)⟩⟩
  case rest =>
    clear HC3
    try clear c1
    try clear p2
    try clear c4
    try clear c4b0
    try clear c4b1
    obtain ⟨kq, x18_2, rfl, HA, HJ2, HB⟩ := hcut
    cases kq with
    | zero => exact absurd HA.out (by simp [spec_l1crcOk.j0])
    | succ kj2 =>
      have H := HA.out
      clear HA
      simp only [spec_l1crcOk.j0] at H
      by_cases c5 : x18_2 = true
      · subst c5
        have H1 : (some false) = some r := by rw [if_pos rfl] at H; exact H
        clear H
        have H := H1
        clear H1
        obtain rfl := Option.some.inj H
        go_wp2
        go_ret
        exact ⟨by first | rfl | (simp [errW_none, errW_some] <;> rfl) | (simp [*, errW_none, errW_some] <;> rfl), by repeat (first | (with_reducible first | exact HB.out | apply below_alloc | apply pw_below_drewN | apply below_drew1) | exact HB.out)⟩
      · replace c5 := Bool.eq_false_iff.mpr c5
        subst c5
        have H1 : (if 0 ≤ t170 then (if t170 ≤ (l0.length : Int) then ((spec_Crc15.f kj2 (strOfNums (l0.take (t170 : Int).toNat))).bind fun t172 => (if t170 ≤ (wrap64 (t170 + 15)) then (if (wrap64 (t170 + 15)) ≤ (l0.length : Int) then ((spec_l1val.f kj2 (strOfNums ((l0.take ((wrap64 (t170 + 15)) : Int).toNat).drop (t170 : Int).toNat))).bind fun t174 => (some (t172 == t174))) else (none)) else (none))) else (none)) else (none)) = some r := by rw [if_neg (show ¬ (false = true) by decide)] at H; exact H
        clear H
        have H := H1
        clear H1
        by_cases c6 : 0 ≤ t170
        · rw [if_pos c6] at H
          have c6b0 := eq_true c6
          have c6b1 : decide (0 ≤ t170) = true := decide_eq_true c6
          clear c6
          by_cases c7 : t170 ≤ (l0.length : Int)
          · rw [if_pos c7] at H
            have c7b0 := eq_true c7
            have c7b1 : decide (t170 ≤ (l0.length : Int)) = true := decide_eq_true c7
            clear c7
            replace H := Option.bind_eq_some_iff.mp H
            obtain ⟨t172, A80, H⟩ := H
            replace H : (if t170 ≤ (wrap64 (t170 + 15)) then (if (wrap64 (t170 + 15)) ≤ (l0.length : Int) then ((spec_l1val.f kj2 (strOfNums ((l0.take ((wrap64 (t170 + 15)) : Int).toNat).drop (t170 : Int).toNat))).bind fun t174 => (some (t172 == t174))) else (none)) else (none)) = some r := H
            have A8 := Aside0.mk A80
            clear A80
            have c9b0 := eq_true (of_decide_eq_true (by first | (with_reducible assumption) | assumption) : 0 ≤ t170)
            by_cases c10 : t170 ≤ (wrap64 (t170 + 15))
            · rw [if_pos c10] at H
              have c10b0 := eq_true c10
              have c10b1 : decide (t170 ≤ (wrap64 (t170 + 15))) = true := decide_eq_true c10
              by_cases c11 : (wrap64 (t170 + 15)) ≤ (l0.length : Int)
              · rw [if_pos c11] at H
                have c11b0 := eq_true c11
                have c11b1 : decide ((wrap64 (t170 + 15)) ≤ (l0.length : Int)) = true := decide_eq_true c11
                replace H := Option.bind_eq_some_iff.mp H
                obtain ⟨t174, A120, H⟩ := H
                replace H : (some (t172 == t174)) = some r := H
                have A12 := Aside0.mk A120
                clear A120
                obtain rfl := Option.some.inj H
                try go_wp2
                have n0_ := Aside0.mk (below_drew1 HB.out)
                clear HB
                have HB := n0_
                clear n0_
                obtain ⟨i014, hi014, _, hsz14, _⟩ := info_parts info5
                obtain ⟨hcut14, hA14, hC14⟩ := print_take_of (P := Try.prog) (Value.int .u8) 0 22 5 .i64 Try.underlying22 hi014 hsz14 A0 c0 l0 t170 (of_decide_eq_true (by first | (with_reducible assumption) | assumption)) (of_decide_eq_true (by first | (with_reducible assumption) | assumption)) HC0.out
                have HR171 := Aside0.mk (Kd.C_of_reads (h1 := fun _ => rfl) (hA14 _ (Kd.reads_of_C HR0.out)))
                have HC171 := Aside0.mk hC14
                clear hA14 hC14 hi014 hsz14
                obtain ⟨i015, hi015, _, hsz15, _⟩ := info_parts info5
                obtain ⟨A15, hcut15, hA15, hC15⟩ := print_mid_of (P := Try.prog) (Value.int .u8) 0 22 5 .i64 .i64 Try.underlying22 hi015 hsz15 A0 c0 l0 t170 (wrap64 (t170 + 15)) (of_decide_eq_true (by first | (with_reducible assumption) | assumption)) (by first | omega | exact of_decide_eq_true (by first | (with_reducible assumption) | assumption)) (of_decide_eq_true (by first | (with_reducible assumption) | assumption)) HC0.out
                have HR173 := Aside0.mk (Kd.C_of_reads (h1 := fun _ => rfl) (hA15 _ (Kd.reads_of_C HR0.out)))
                have HC173 := Aside0.mk hC15
                clear hA15 hC15 hi015 hsz15
                have hlA : (l0.take t170.toNat).length = t170.toNat := by rw [List.length_take, Nat.min_eq_left (by have := of_decide_eq_true c7b1; omega)]
                have hlB : (List.drop t170.toNat (List.take (wrap64 (t170 + 15)).toNat l0)).length = (wrap64 (t170 + 15)).toNat - t170.toNat := by rw [List.length_drop, List.length_take, Nat.min_eq_left (by omega)]
                have HCV : Aside0 (∀ W' : World, Below w.heap.size w W' → ((convert 22 9 (.slice A0 t170.toNat c0)).run Try.prog W' = .ok (.string (strOfNums (l0.take (t170 : Int).toNat))) W') ∧ ((convert 22 9 (.slice A15 ((wrap64 (t170 + 15)).toNat - t170.toNat) (c0 - t170.toNat))).run Try.prog W' = .ok (.string (strOfNums ((l0.take ((wrap64 (t170 + 15)) : Int).toNat).drop (t170 : Int).toNat))) W')) := Aside0.mk (fun W' hW => ⟨by have h := Kd.C_string (P := Try.prog) (w := W') (A := A0) (c := c0) Try.underlying22 Try.underlying5 Try.underlying9 (Kd.C_below HR171.out hW); rw [hlA] at h; exact h, by have h := Kd.C_string (P := Try.prog) (w := W') (A := A15) (c := (c0 - t170.toNat)) Try.underlying22 Try.underlying5 Try.underlying9 (Kd.C_below HR173.out hW); rw [hlB] at h; exact h⟩)
                clear hlA hlB
                refine start_ (n := 14) (S := fun W' => ((convert 22 9 (.slice A0 t170.toNat c0)).run Try.prog W' = .ok (.string (strOfNums (l0.take (t170 : Int).toNat))) W') ∧ ((convert 22 9 (.slice A15 ((wrap64 (t170 + 15)).toNat - t170.toNat) (c0 - t170.toNat))).run Try.prog W' = .ok (.string (strOfNums ((l0.take ((wrap64 (t170 + 15)) : Int).toNat).drop (t170 : Int).toNat))) W')) (ds := []) #[false, false, false, false, false, false, false, false, false, false, false, false, false, false] (by kernel_rfl) rfl rfl (HCV.out _ HB.out) (fun hHeld => ?_); refine with_tabW spec_l1crcOk.tab4 spec_l1crcOk.bits4 (fun HT_ HW_ => ?_)
                generalize wc.drew = w13 at HB HR171 HR173 hHeld ⊢
                refine pure_ (i := 0) (N := some 19) (v := ?_) (a' := ?_) #[true, false, false, false, false, false, false, false, false, false, false, false, false, false] rfl rfl (any_of HT_.out (by kernel_rfl)) (fun _ _ _ h => h) (Or.inl ⟨by rfl, ?_⟩) ?_ ?_
                rotate_left
                · intro w'
                  go_simp
                  with_reducible rfl
                rotate_left
                · simp only [Act.put, List.setIfInBounds_toArray, List.set_cons_zero, List.set_cons_succ, i64_w, i32_w]
                  rfl
                refine pure_ (i := 1) (N := some 20) (v := ?_) (a' := ?_) #[true, true, false, false, false, false, false, false, false, false, false, false, false, false] rfl rfl (any_of HT_.out (by kernel_rfl)) (fun _ _ _ h => h) (Or.inl ⟨by rfl, ?_⟩) ?_ ?_
                rotate_left
                · intro w'
                  go_simp
                  with_reducible rfl
                rotate_left
                · simp only [Act.put, List.setIfInBounds_toArray, List.set_cons_zero, List.set_cons_succ, i64_w, i32_w]
                  rfl
                refine pure_ (i := 2) (N := some 21) (v := ?_) (a' := ?_) #[true, true, true, false, false, false, false, false, false, false, false, false, false, false] rfl rfl (any_of HT_.out (by kernel_rfl)) (fun _ _ _ h => h) (Or.inl ⟨by rfl, ?_⟩) ?_ ?_
                rotate_left
                · intro w'
                  go_simp
                  with_reducible rfl
                rotate_left
                · simp only [Act.put, List.setIfInBounds_toArray, List.set_cons_zero, List.set_cons_succ, i64_w, i32_w]
                  rfl
                refine take_ (i := 3) (N := some 22) (v := ?_) (a' := ?_) #[true, true, true, true, false, false, false, false, false, false, false, false, false, false] rfl rfl (take_ofW HT_.out HW_.out (by kernel_rfl)) (fun _ _ _ h => h) (Or.inl ⟨by rfl, ?_⟩) hHeld ?_ ?_
                rotate_left
                · intro w' s0
                  obtain ⟨s1, s2⟩ := s0
                  go_simp
                  with_reducible rfl
                rotate_left
                · simp only [Act.put, List.setIfInBounds_toArray, List.set_cons_zero, List.set_cons_succ, i64_w, i32_w]
                  rfl
                refine pure_ (i := 5) (N := some 24) (v := ?_) (a' := ?_) #[true, true, true, true, false, true, false, false, false, false, false, false, false, false] rfl rfl (any_of HT_.out (by kernel_rfl)) (fun _ _ _ h => h) (Or.inl ⟨by rfl, ?_⟩) ?_ ?_
                rotate_left
                · intro w'
                  go_simp
                  with_reducible rfl
                rotate_left
                · simp only [Act.put, List.setIfInBounds_toArray, List.set_cons_zero, List.set_cons_succ, i64_w, i32_w]
                  rfl
                refine pure_ (i := 6) (N := some 25) (v := ?_) (a' := ?_) #[true, true, true, true, false, true, true, false, false, false, false, false, false, false] rfl rfl (any_of HT_.out (by kernel_rfl)) (fun _ _ _ h => h) (Or.inl ⟨by rfl, ?_⟩) ?_ ?_
                rotate_left
                · intro w'
                  go_simp
                  with_reducible rfl
                rotate_left
                · simp only [Act.put, List.setIfInBounds_toArray, List.set_cons_zero, List.set_cons_succ, i64_w, i32_w]
                  rfl
                refine pure_ (i := 7) (N := some 26) (v := ?_) (a' := ?_) #[true, true, true, true, false, true, true, true, false, false, false, false, false, false] rfl rfl (any_of HT_.out (by kernel_rfl)) (fun _ _ _ h => h) (Or.inl ⟨by rfl, ?_⟩) ?_ ?_
                rotate_left
                · intro w'
                  go_simp
                  with_reducible rfl
                rotate_left
                · simp only [Act.put, List.setIfInBounds_toArray, List.set_cons_zero, List.set_cons_succ, i64_w, i32_w]
                  rfl
                refine pure_ (i := 8) (N := some 27) (v := ?_) (a' := ?_) #[true, true, true, true, false, true, true, true, true, false, false, false, false, false] rfl rfl (any_of HT_.out (by kernel_rfl)) (fun _ _ _ h => h) (Or.inl ⟨by rfl, ?_⟩) ?_ ?_
                rotate_left
                · intro w'
                  go_simp
                  with_reducible rfl
                rotate_left
                · simp only [Act.put, List.setIfInBounds_toArray, List.set_cons_zero, List.set_cons_succ, i64_w, i32_w]
                  rfl
                refine pure_ (i := 9) (N := some 28) (v := ?_) (a' := ?_) #[true, true, true, true, false, true, true, true, true, true, false, false, false, false] rfl rfl (any_of HT_.out (by kernel_rfl)) (fun _ _ _ h => h) (Or.inl ⟨by rfl, ?_⟩) ?_ ?_
                rotate_left
                · intro w'
                  go_simp
                  with_reducible rfl
                rotate_left
                · simp only [Act.put, List.setIfInBounds_toArray, List.set_cons_zero, List.set_cons_succ, i64_w, i32_w]
                  rfl
                refine take_ (i := 10) (N := some 29) (v := ?_) (a' := ?_) #[true, true, true, true, false, true, true, true, true, true, true, false, false, false] rfl rfl (take_ofW HT_.out HW_.out (by kernel_rfl)) (fun _ _ _ h => h) (Or.inl ⟨by rfl, ?_⟩) hHeld ?_ ?_
                rotate_left
                · intro w' s0
                  obtain ⟨s1, s2⟩ := s0
                  go_simp
                  with_reducible rfl
                rotate_left
                · simp only [Act.put, List.setIfInBounds_toArray, List.set_cons_zero, List.set_cons_succ, i64_w, i32_w]
                  rfl
                refine one_ (i := 4) (N := some 23) #[true, true, true, true, true, true, true, true, true, true, true, false, false, false] rfl rfl (one_of HT_.out (by kernel_rfl)) (by decide) (fun K hK => ?_)
                refine goes_ Try.func107 (by kernel_rfl) rfl #[.string (strOfNums (l0.take (t170 : Int).toNat))] (by rfl) rfl rfl (by (try simp only [List.map_toArray, List.map_cons, List.map_nil]); first | done | rfl | (simp only [List.length_drop, List.length_take]; rfl)) ?_
                with_reducible refine (spec_Crc15.calls kj2 (strOfNums (l0.take (t170 : Int).toNat)) t172 _ A8.out).mono ?_
                rintro e w17 ⟨rfl, hb⟩
                refine ⟨_, rfl, ?_⟩
                have n0_ := Aside0.mk (below_step (by repeat (first | (with_reducible first | exact HB.out | apply below_alloc | apply pw_below_drewN | apply below_drew1) | exact HB.out)) hb)
                clear HB
                have HB := n0_
                clear n0_
                (try clear hb)
                (try clear hb2)
                (try clear hk)
                (try clear hi)
                refine hK.out _ _ (HCV.out _ (by first | exact HB.out | exact pw_below_drewN HB.out _)) (fun hHeld => ?_)
                clear hK K
                refine norm_ (a' := ?_) ?_ ?_
                rotate_left
                · show Act.put _ (some 23) _ = _
                  simp only [Act.put, List.setIfInBounds_toArray, List.set_cons_zero, List.set_cons_succ, i64_w, i32_w]
                  rfl
                refine one_ (i := 11) (N := some 30) #[true, true, true, true, true, true, true, true, true, true, true, true, false, false] rfl rfl (one_of HT_.out (by kernel_rfl)) (by decide) (fun K hK => ?_)
                refine goes_ Try.func103 (by kernel_rfl) rfl #[.string (strOfNums ((l0.take ((wrap64 (t170 + 15)) : Int).toNat).drop (t170 : Int).toNat))] (by rfl) rfl rfl (by (try simp only [List.map_toArray, List.map_cons, List.map_nil]); first | done | rfl | (simp only [List.length_drop, List.length_take]; rfl)) ?_
                with_reducible refine (spec_l1val.calls kj2 (strOfNums ((l0.take ((wrap64 (t170 + 15)) : Int).toNat).drop (t170 : Int).toNat)) t174 _ A12.out).mono ?_
                rintro e w' ⟨rfl, ⟨nd, rfl⟩⟩
                refine ⟨_, rfl, ?_⟩
                refine hK.out _ _ (HCV.out _ (by first | exact HB.out | exact pw_below_drewN HB.out _)) (fun hHeld => ?_)
                clear hK K
                refine norm_ (a' := ?_) ?_ ?_
                rotate_left
                · show Act.put _ (some 30) _ = _
                  simp only [Act.put, List.setIfInBounds_toArray, List.set_cons_zero, List.set_cons_succ, i64_w, i32_w]
                  rfl
                refine pure_ (i := 12) (N := some 31) (v := ?_) (a' := ?_) #[true, true, true, true, true, true, true, true, true, true, true, true, true, false] rfl rfl (any_of HT_.out (by kernel_rfl)) (fun _ _ _ h => h) (Or.inl ⟨by rfl, ?_⟩) ?_ ?_
                rotate_left
                · intro w'
                  go_simp
                  with_reducible rfl
                rotate_left
                · simp only [Act.put, List.setIfInBounds_toArray, List.set_cons_zero, List.set_cons_succ, i64_w, i32_w]
                  rfl
                refine pure_ (i := 13) (N := some 2) (v := ?_) (a' := ?_) #[true, true, true, true, true, true, true, true, true, true, true, true, true, true] rfl rfl (any_of HT_.out (by kernel_rfl)) (fun _ _ _ h => h) (Or.inl ⟨by rfl, ?_⟩) ?_ ?_
                rotate_left
                · intro w'
                  go_simp
                  with_reducible rfl
                rotate_left
                · simp only [Act.put, List.setIfInBounds_toArray, List.set_cons_zero, List.set_cons_succ, i64_w, i32_w]
                  rfl
                refine done_ (done_of HT_.out (by kernel_rfl)) ?_
                try go_wp2
                go_ret
                exact ⟨by first | rfl | (simp [errW_none, errW_some] <;> rfl) | (simp [*, errW_none, errW_some] <;> rfl), by repeat (first | (with_reducible first | exact HB.out | apply below_alloc | apply pw_below_drewN | apply below_drew1) | exact HB.out)⟩
              · rw [if_neg c11] at H
                exact absurd H (by simp)
            · rw [if_neg c10] at H
              exact absurd H (by simp)
          · rw [if_neg c7] at H
            exact absurd H (by simp)
        · rw [if_neg c6] at H
          exact absurd H (by simp)
end Go.Proofs.Ytdoclpgciadjaaa.P

namespace Go.Proofs.Ytdoclpgciadjaaa.P
open Go.RowKit Go.Proofs.YtdoclpgciadjaaaW.PrintWords Go.Proofs.YtdoclpgciadjaaaW.PrintLast Go.Proofs.YtdoclpgciadjaaaW.PrintMore
set_option linter.unusedVariables false
set_option linter.unusedSimpArgs false
mutual
def spec_l1look.j0 : Nat → Int → Int → Bool → Option (Int)
  | 0, _, _, _ => none
  | k + 1, x1, x7, x42 => if x42 = true then (some 4) else (if x7 = 5 then (some 1) else (if x7 = 6 then (spec_l1look.j1 k x7 (x1 == 48)) else (spec_l1look.j1 k x7 false)))
def spec_l1look.j1 : Nat → Int → Bool → Option (Int)
  | 0, _, _ => none
  | k + 1, x7, x50 => if x50 = true then (some 6) else (if x7 = 6 then (some 2) else (some 0))
end
def spec_l1look.f (k : Nat) (l0 : List Int) (a1 : Int) : Option (Int) := (spec_l1field.f k l0).bind fun t175 => (if t175 = 1 then (if a1 = 49 then (some 4) else (some 0)) else (if t175 = 11 then (if a1 = 48 then (some 4) else (some 0)) else (if t175 = 13 then (if a1 = 48 then (some 4) else ((spec_l1crcOk.f k l0).bind fun t176 => (if t176 = true then (some 0) else (some 5)))) else (if t175 = 14 then ((spec_l1lay.f k l0).bind fun bt177 => (if (wrap64 ((wrap64 ((l0.length : Int) - bt177.2)) - 18)) < 6 then (spec_l1look.j0 k a1 (wrap64 ((wrap64 ((l0.length : Int) - bt177.2)) - 18)) (a1 == 48)) else (spec_l1look.j0 k a1 (wrap64 ((wrap64 ((l0.length : Int) - bt177.2)) - 18)) false))) else (some 0)))))
theorem spec_l1look.mono_l : ∀ k, (∀ y0 y1 y2, LeO (spec_l1look.j0 k y0 y1 y2) (spec_l1look.j0 (k + 1) y0 y1 y2)) ∧ (∀ y0 y1, LeO (spec_l1look.j1 k y0 y1) (spec_l1look.j1 (k + 1) y0 y1))
  | 0 => ⟨fun _ _ _ r h => by simp [spec_l1look.j0] at h, fun _ _ r h => by simp [spec_l1look.j1] at h⟩
  | k + 1 => by
    obtain ⟨ih0, ih1⟩ := spec_l1look.mono_l k
    refine ⟨?_, ?_⟩
    · intro y0 y1 y2
      unfold spec_l1look.j0
      repeat' first
      | (with_reducible exact ih0 _ _ _)
      | (with_reducible exact ih1 _ _)
      | (with_reducible exact spec_l1crcOk.mono _ _)
      | (with_reducible exact spec_l1field.mono _ _)
      | (with_reducible exact spec_l1lay.mono _ _)
      | (with_reducible exact LeO.refl _)
      | (with_reducible exact LeO.none _)
      | (with_reducible refine LeO.ite ?_ ?_)
      | (with_reducible refine LeO.bind ?_ (fun _ => ?_))
      | exact ih0 _ _ _
      | exact ih1 _ _
      | exact spec_l1crcOk.mono _ _
      | exact spec_l1field.mono _ _
      | exact spec_l1lay.mono _ _
      | exact LeO.none _
      | refine LeO.ite ?_ ?_
      | refine LeO.bind ?_ (fun _ => ?_)
    · intro y0 y1
      unfold spec_l1look.j1
      repeat' first
      | (with_reducible exact ih0 _ _ _)
      | (with_reducible exact ih1 _ _)
      | (with_reducible exact spec_l1crcOk.mono _ _)
      | (with_reducible exact spec_l1field.mono _ _)
      | (with_reducible exact spec_l1lay.mono _ _)
      | (with_reducible exact LeO.refl _)
      | (with_reducible exact LeO.none _)
      | (with_reducible refine LeO.ite ?_ ?_)
      | (with_reducible refine LeO.bind ?_ (fun _ => ?_))
      | exact ih0 _ _ _
      | exact ih1 _ _
      | exact spec_l1crcOk.mono _ _
      | exact spec_l1field.mono _ _
      | exact spec_l1lay.mono _ _
      | exact LeO.none _
      | refine LeO.ite ?_ ?_
      | refine LeO.bind ?_ (fun _ => ?_)
theorem spec_l1look.mono : ∀ a0 a1 k, LeO (spec_l1look.f k a0 a1) (spec_l1look.f (k + 1) a0 a1) := by
  intro a0 a1 k
  obtain ⟨ih0, ih1⟩ := spec_l1look.mono_l k
  unfold spec_l1look.f
  repeat' first
      | (with_reducible exact ih0 _ _ _)
      | (with_reducible exact ih1 _ _)
      | (with_reducible exact spec_l1crcOk.mono _ _)
      | (with_reducible exact spec_l1field.mono _ _)
      | (with_reducible exact spec_l1lay.mono _ _)
      | (with_reducible exact LeO.refl _)
      | (with_reducible exact LeO.none _)
      | (with_reducible refine LeO.ite ?_ ?_)
      | (with_reducible refine LeO.bind ?_ (fun _ => ?_))
      | exact ih0 _ _ _
      | exact ih1 _ _
      | exact spec_l1crcOk.mono _ _
      | exact spec_l1field.mono _ _
      | exact spec_l1lay.mono _ _
      | exact LeO.none _
      | refine LeO.ite ?_ ?_
      | refine LeO.bind ?_ (fun _ => ?_)
set_option maxHeartbeats 8000000 in
set_option maxRecDepth 100000 in
theorem spec_l1look.calls (k : Nat) (A0 : Option Addr) (c0 : Nat) (l0 : List Int) (a1 : Int) (r : Int) (w : World) (hr0 : Kd.C (Kd.int .u8) w A0 l0.length l0) (hc0 : l0.length ≤ c0) (h : spec_l1look.f k l0 a1 = some r) :
    Calls Try.prog 138 #[.slice A0 l0.length c0, .int .u8 a1] w fun e w' => e = .returned (.int .i64 r) ∧ Below w.heap.size w w' := by
  have HR0 := Aside0.mk hr0
  have HC0 := Aside0.mk hc0
  clear hr0 hc0
  have HB := Aside0.mk (Below.refl w.heap.size w)
  have H : ((spec_l1field.f k l0).bind fun t175 => (if t175 = 1 then (if a1 = 49 then (some 4) else (some 0)) else (if t175 = 11 then (if a1 = 48 then (some 4) else (some 0)) else (if t175 = 13 then (if a1 = 48 then (some 4) else ((spec_l1crcOk.f k l0).bind fun t176 => (if t176 = true then (some 0) else (some 5)))) else (if t175 = 14 then ((spec_l1lay.f k l0).bind fun bt177 => (if (wrap64 ((wrap64 ((l0.length : Int) - bt177.2)) - 18)) < 6 then (spec_l1look.j0 k a1 (wrap64 ((wrap64 ((l0.length : Int) - bt177.2)) - 18)) (a1 == 48)) else (spec_l1look.j0 k a1 (wrap64 ((wrap64 ((l0.length : Int) - bt177.2)) - 18)) false))) else (some 0)))))) = some r := h
  clear h
  replace H := Option.bind_eq_some_iff.mp H
  obtain ⟨t175, A30, H⟩ := H
  replace H : (if t175 = 1 then (if a1 = 49 then (some 4) else (some 0)) else (if t175 = 11 then (if a1 = 48 then (some 4) else (some 0)) else (if t175 = 13 then (if a1 = 48 then (some 4) else ((spec_l1crcOk.f k l0).bind fun t176 => (if t176 = true then (some 0) else (some 5)))) else (if t175 = 14 then ((spec_l1lay.f k l0).bind fun bt177 => (if (wrap64 ((wrap64 ((l0.length : Int) - bt177.2)) - 18)) < 6 then (spec_l1look.j0 k a1 (wrap64 ((wrap64 ((l0.length : Int) - bt177.2)) - 18)) (a1 == 48)) else (spec_l1look.j0 k a1 (wrap64 ((wrap64 ((l0.length : Int) - bt177.2)) - 18)) false))) else (some 0))))) = some r := H
  have A3 := Aside0.mk A30
  clear A30
  by_cases c4 : t175 = 1
  · rw [if_pos c4] at H
    have c4b0 : (t175 == 1) = true := beq_iff_eq.mpr c4
    have c4b1 : (t175 != 1) = false := bne_eq_false_iff_eq.mpr c4
    clear c4
    by_cases c5 : a1 = 49
    · rw [if_pos c5] at H
      have c5b0 : (a1 == 49) = true := beq_iff_eq.mpr c5
      have c5b1 : (a1 != 49) = false := bne_eq_false_iff_eq.mpr c5
      clear c5
      obtain rfl := Option.some.inj H
      go_enter Try.func138, Try.ntmps138
      go_wp2_with (first | ((with_reducible refine gate_callee (f := 87) rfl ?_); refine goesL_ (some 9) rfl rfl Try.func87 (by kernel_rfl) rfl #[.slice A0 l0.length c0] rfl (by (try simp only [List.map_toArray, List.map_cons, List.map_nil]); first | done | rfl | (simp only [List.length_drop, List.length_take]; rfl)) ?_; (with_reducible refine (spec_l1field.calls k _ _ l0 t175 _ ?side1 ?side2 A3.out).mono ?_); (case side1 => repeat (first | exact HR0.out | (with_reducible refine Kd.C_alloc ?_ _) | (with_reducible refine Kd.C_drewN ?_ _) | (with_reducible refine Kd.C_drew ?_))); (case side2 => exact HC0.out); rintro e w' ⟨rfl, ⟨nd, rfl⟩⟩; refine ⟨_, rfl, ?_⟩))
      go_ret
      exact ⟨by first | rfl | (simp [errW_none, errW_some] <;> rfl) | (simp [*, errW_none, errW_some] <;> rfl), by repeat (first | (with_reducible first | exact HB.out | apply below_alloc | apply pw_below_drewN | apply below_drew1) | exact HB.out)⟩
    · rw [if_neg c5] at H
      have c5b0 : (a1 == 49) = false := beq_eq_false_iff_ne.mpr c5
      have c5b1 : (a1 != 49) = true := bne_iff_ne.mpr c5
      obtain rfl := Option.some.inj H
      go_enter Try.func138, Try.ntmps138
      go_wp2_with (first | ((with_reducible refine gate_callee (f := 87) rfl ?_); refine goesL_ (some 9) rfl rfl Try.func87 (by kernel_rfl) rfl #[.slice A0 l0.length c0] rfl (by (try simp only [List.map_toArray, List.map_cons, List.map_nil]); first | done | rfl | (simp only [List.length_drop, List.length_take]; rfl)) ?_; (with_reducible refine (spec_l1field.calls k _ _ l0 t175 _ ?side1 ?side2 A3.out).mono ?_); (case side1 => repeat (first | exact HR0.out | (with_reducible refine Kd.C_alloc ?_ _) | (with_reducible refine Kd.C_drewN ?_ _) | (with_reducible refine Kd.C_drew ?_))); (case side2 => exact HC0.out); rintro e w' ⟨rfl, ⟨nd, rfl⟩⟩; refine ⟨_, rfl, ?_⟩))
      go_ret
      exact ⟨by first | rfl | (simp [errW_none, errW_some] <;> rfl) | (simp [*, errW_none, errW_some] <;> rfl), by repeat (first | (with_reducible first | exact HB.out | apply below_alloc | apply pw_below_drewN | apply below_drew1) | exact HB.out)⟩
  · rw [if_neg c4] at H
    have c4b0 : (t175 == 1) = false := beq_eq_false_iff_ne.mpr c4
    have c4b1 : (t175 != 1) = true := bne_iff_ne.mpr c4
    by_cases c6 : t175 = 11
    · rw [if_pos c6] at H
      have c6b0 : (t175 == 11) = true := beq_iff_eq.mpr c6
      have c6b1 : (t175 != 11) = false := bne_eq_false_iff_eq.mpr c6
      clear c6
      by_cases c7 : a1 = 48
      · rw [if_pos c7] at H
        have c7b0 : (a1 == 48) = true := beq_iff_eq.mpr c7
        have c7b1 : (a1 != 48) = false := bne_eq_false_iff_eq.mpr c7
        clear c7
        obtain rfl := Option.some.inj H
        go_enter Try.func138, Try.ntmps138
        go_wp2_with (first | ((with_reducible refine gate_callee (f := 87) rfl ?_); refine goesL_ (some 9) rfl rfl Try.func87 (by kernel_rfl) rfl #[.slice A0 l0.length c0] rfl (by (try simp only [List.map_toArray, List.map_cons, List.map_nil]); first | done | rfl | (simp only [List.length_drop, List.length_take]; rfl)) ?_; (with_reducible refine (spec_l1field.calls k _ _ l0 t175 _ ?side1 ?side2 A3.out).mono ?_); (case side1 => repeat (first | exact HR0.out | (with_reducible refine Kd.C_alloc ?_ _) | (with_reducible refine Kd.C_drewN ?_ _) | (with_reducible refine Kd.C_drew ?_))); (case side2 => exact HC0.out); rintro e w' ⟨rfl, ⟨nd, rfl⟩⟩; refine ⟨_, rfl, ?_⟩))
        go_ret
        exact ⟨by first | rfl | (simp [errW_none, errW_some] <;> rfl) | (simp [*, errW_none, errW_some] <;> rfl), by repeat (first | (with_reducible first | exact HB.out | apply below_alloc | apply pw_below_drewN | apply below_drew1) | exact HB.out)⟩
      · rw [if_neg c7] at H
        have c7b0 : (a1 == 48) = false := beq_eq_false_iff_ne.mpr c7
        have c7b1 : (a1 != 48) = true := bne_iff_ne.mpr c7
        obtain rfl := Option.some.inj H
        go_enter Try.func138, Try.ntmps138
        go_wp2_with (first | ((with_reducible refine gate_callee (f := 87) rfl ?_); refine goesL_ (some 9) rfl rfl Try.func87 (by kernel_rfl) rfl #[.slice A0 l0.length c0] rfl (by (try simp only [List.map_toArray, List.map_cons, List.map_nil]); first | done | rfl | (simp only [List.length_drop, List.length_take]; rfl)) ?_; (with_reducible refine (spec_l1field.calls k _ _ l0 t175 _ ?side1 ?side2 A3.out).mono ?_); (case side1 => repeat (first | exact HR0.out | (with_reducible refine Kd.C_alloc ?_ _) | (with_reducible refine Kd.C_drewN ?_ _) | (with_reducible refine Kd.C_drew ?_))); (case side2 => exact HC0.out); rintro e w' ⟨rfl, ⟨nd, rfl⟩⟩; refine ⟨_, rfl, ?_⟩))
        go_ret
        exact ⟨by first | rfl | (simp [errW_none, errW_some] <;> rfl) | (simp [*, errW_none, errW_some] <;> rfl), by repeat (first | (with_reducible first | exact HB.out | apply below_alloc | apply pw_below_drewN | apply below_drew1) | exact HB.out)⟩
    · rw [if_neg c6] at H
      have c6b0 : (t175 == 11) = false := beq_eq_false_iff_ne.mpr c6
      have c6b1 : (t175 != 11) = true := bne_iff_ne.mpr c6
      by_cases c8 : t175 = 13
      · rw [if_pos c8] at H
        have c8b0 : (t175 == 13) = true := beq_iff_eq.mpr c8
        have c8b1 : (t175 != 13) = false := bne_eq_false_iff_eq.mpr c8
        clear c8
        by_cases c9 : a1 = 48
        · rw [if_pos c9] at H
          have c9b0 : (a1 == 48) = true := beq_iff_eq.mpr c9
          have c9b1 : (a1 != 48) = false := bne_eq_false_iff_eq.mpr c9
          clear c9
          obtain rfl := Option.some.inj H
          go_enter Try.func138, Try.ntmps138
          go_wp2_with (first | ((with_reducible refine gate_callee (f := 87) rfl ?_); refine goesL_ (some 9) rfl rfl Try.func87 (by kernel_rfl) rfl #[.slice A0 l0.length c0] rfl (by (try simp only [List.map_toArray, List.map_cons, List.map_nil]); first | done | rfl | (simp only [List.length_drop, List.length_take]; rfl)) ?_; (with_reducible refine (spec_l1field.calls k _ _ l0 t175 _ ?side1 ?side2 A3.out).mono ?_); (case side1 => repeat (first | exact HR0.out | (with_reducible refine Kd.C_alloc ?_ _) | (with_reducible refine Kd.C_drewN ?_ _) | (with_reducible refine Kd.C_drew ?_))); (case side2 => exact HC0.out); rintro e w' ⟨rfl, ⟨nd, rfl⟩⟩; refine ⟨_, rfl, ?_⟩))
          go_ret
          exact ⟨by first | rfl | (simp [errW_none, errW_some] <;> rfl) | (simp [*, errW_none, errW_some] <;> rfl), by repeat (first | (with_reducible first | exact HB.out | apply below_alloc | apply pw_below_drewN | apply below_drew1) | exact HB.out)⟩
        · rw [if_neg c9] at H
          have c9b0 : (a1 == 48) = false := beq_eq_false_iff_ne.mpr c9
          have c9b1 : (a1 != 48) = true := bne_iff_ne.mpr c9
          replace H := Option.bind_eq_some_iff.mp H
          obtain ⟨t176, A100, H⟩ := H
          replace H : (if t176 = true then (some 0) else (some 5)) = some r := H
          have A10 := Aside0.mk A100
          clear A100
          by_cases c11 : t176 = true
          · subst c11
            have H1 : (some 0) = some r := by rw [if_pos rfl] at H; exact H
            clear H
            have H := H1
            clear H1
            obtain rfl := Option.some.inj H
            go_enter Try.func138, Try.ntmps138
            go_wp2_with (first | ((with_reducible refine gate_callee (f := 87) rfl ?_); refine goesL_ (some 9) rfl rfl Try.func87 (by kernel_rfl) rfl #[.slice A0 l0.length c0] rfl (by (try simp only [List.map_toArray, List.map_cons, List.map_nil]); first | done | rfl | (simp only [List.length_drop, List.length_take]; rfl)) ?_; (with_reducible refine (spec_l1field.calls k _ _ l0 t175 _ ?side1 ?side2 A3.out).mono ?_); (case side1 => repeat (first | exact HR0.out | (with_reducible refine Kd.C_alloc ?_ _) | (with_reducible refine Kd.C_drewN ?_ _) | (with_reducible refine Kd.C_drew ?_))); (case side2 => exact HC0.out); rintro e w' ⟨rfl, ⟨nd, rfl⟩⟩; refine ⟨_, rfl, ?_⟩) | ((with_reducible refine gate_callee (f := 88) rfl ?_); refine goesL_ (some 23) rfl rfl Try.func88 (by kernel_rfl) rfl #[.slice A0 l0.length c0] rfl (by (try simp only [List.map_toArray, List.map_cons, List.map_nil]); first | done | rfl | (simp only [List.length_drop, List.length_take]; rfl)) ?_; (with_reducible refine (spec_l1crcOk.calls k _ _ l0 true _ ?side1 ?side2 A10.out).mono ?_); (case side1 => repeat (first | exact HR0.out | (with_reducible refine Kd.C_alloc ?_ _) | (with_reducible refine Kd.C_drewN ?_ _) | (with_reducible refine Kd.C_drew ?_))); (case side2 => exact HC0.out); rintro e w12 ⟨rfl, hb⟩; refine ⟨_, rfl, ?_⟩; have n0_ := Aside0.mk (below_step (by repeat (first | (with_reducible first | exact HB.out | apply below_alloc | apply pw_below_drewN | apply below_drew1) | exact HB.out)) hb); clear HB; have HB := n0_; clear n0_; (try clear hb); (try clear hb2); (try clear hk); (try clear hi)))
            go_ret
            exact ⟨by first | rfl | (simp [errW_none, errW_some] <;> rfl) | (simp [*, errW_none, errW_some] <;> rfl), by repeat (first | (with_reducible first | exact HB.out | apply below_alloc | apply pw_below_drewN | apply below_drew1) | exact HB.out)⟩
          · replace c11 := Bool.eq_false_iff.mpr c11
            subst c11
            have H1 : (some 5) = some r := by rw [if_neg (show ¬ (false = true) by decide)] at H; exact H
            clear H
            have H := H1
            clear H1
            obtain rfl := Option.some.inj H
            go_enter Try.func138, Try.ntmps138
            go_wp2_with (first | ((with_reducible refine gate_callee (f := 87) rfl ?_); refine goesL_ (some 9) rfl rfl Try.func87 (by kernel_rfl) rfl #[.slice A0 l0.length c0] rfl (by (try simp only [List.map_toArray, List.map_cons, List.map_nil]); first | done | rfl | (simp only [List.length_drop, List.length_take]; rfl)) ?_; (with_reducible refine (spec_l1field.calls k _ _ l0 t175 _ ?side1 ?side2 A3.out).mono ?_); (case side1 => repeat (first | exact HR0.out | (with_reducible refine Kd.C_alloc ?_ _) | (with_reducible refine Kd.C_drewN ?_ _) | (with_reducible refine Kd.C_drew ?_))); (case side2 => exact HC0.out); rintro e w' ⟨rfl, ⟨nd, rfl⟩⟩; refine ⟨_, rfl, ?_⟩) | ((with_reducible refine gate_callee (f := 88) rfl ?_); refine goesL_ (some 23) rfl rfl Try.func88 (by kernel_rfl) rfl #[.slice A0 l0.length c0] rfl (by (try simp only [List.map_toArray, List.map_cons, List.map_nil]); first | done | rfl | (simp only [List.length_drop, List.length_take]; rfl)) ?_; (with_reducible refine (spec_l1crcOk.calls k _ _ l0 false _ ?side1 ?side2 A10.out).mono ?_); (case side1 => repeat (first | exact HR0.out | (with_reducible refine Kd.C_alloc ?_ _) | (with_reducible refine Kd.C_drewN ?_ _) | (with_reducible refine Kd.C_drew ?_))); (case side2 => exact HC0.out); rintro e w13 ⟨rfl, hb⟩; refine ⟨_, rfl, ?_⟩; have n0_ := Aside0.mk (below_step (by repeat (first | (with_reducible first | exact HB.out | apply below_alloc | apply pw_below_drewN | apply below_drew1) | exact HB.out)) hb); clear HB; have HB := n0_; clear n0_; (try clear hb); (try clear hb2); (try clear hk); (try clear hi)))
            go_ret
            exact ⟨by first | rfl | (simp [errW_none, errW_some] <;> rfl) | (simp [*, errW_none, errW_some] <;> rfl), by repeat (first | (with_reducible first | exact HB.out | apply below_alloc | apply pw_below_drewN | apply below_drew1) | exact HB.out)⟩
      · rw [if_neg c8] at H
        have c8b0 : (t175 == 13) = false := beq_eq_false_iff_ne.mpr c8
        have c8b1 : (t175 != 13) = true := bne_iff_ne.mpr c8
        by_cases c14 : t175 = 14
        · rw [if_pos c14] at H
          have c14b0 : (t175 == 14) = true := beq_iff_eq.mpr c14
          have c14b1 : (t175 != 14) = false := bne_eq_false_iff_eq.mpr c14
          clear c14
          replace H := Option.bind_eq_some_iff.mp H
          obtain ⟨⟨t177, t178⟩, A150, H⟩ := H
          replace H : (if (wrap64 ((wrap64 ((l0.length : Int) - t178)) - 18)) < 6 then (spec_l1look.j0 k a1 (wrap64 ((wrap64 ((l0.length : Int) - t178)) - 18)) (a1 == 48)) else (spec_l1look.j0 k a1 (wrap64 ((wrap64 ((l0.length : Int) - t178)) - 18)) false)) = some r := H
          have A15 := Aside0.mk A150
          clear A150
          have HC16 := Aside0.mk H
          clear H
          go_enter Try.func138, Try.ntmps138
          go_upto_region 16 with (first | ((with_reducible refine gate_callee (f := 87) rfl ?_); refine goesL_ (some 9) rfl rfl Try.func87 (by kernel_rfl) rfl #[.slice A0 l0.length c0] rfl (by (try simp only [List.map_toArray, List.map_cons, List.map_nil]); first | done | rfl | (simp only [List.length_drop, List.length_take]; rfl)) ?_; (with_reducible refine (spec_l1field.calls k _ _ l0 t175 _ ?side1 ?side2 A3.out).mono ?_); (case side1 => repeat (first | exact HR0.out | (with_reducible refine Kd.C_alloc ?_ _) | (with_reducible refine Kd.C_drewN ?_ _) | (with_reducible refine Kd.C_drew ?_))); (case side2 => exact HC0.out); rintro e w' ⟨rfl, ⟨nd, rfl⟩⟩; refine ⟨_, rfl, ?_⟩) | ((with_reducible refine gate_callee (f := 102) rfl ?_); refine goesL_ (some 29) rfl rfl Try.func102 (by kernel_rfl) rfl #[.slice A0 l0.length c0] rfl (by (try simp only [List.map_toArray, List.map_cons, List.map_nil]); first | done | rfl | (simp only [List.length_drop, List.length_take]; rfl)) ?_; (with_reducible refine (spec_l1lay.calls k _ _ l0 t177 t178 _ ?side1 ?side2 A15.out).mono ?_); (case side1 => repeat (first | exact HR0.out | (with_reducible refine Kd.C_alloc ?_ _) | (with_reducible refine Kd.C_drewN ?_ _) | (with_reducible refine Kd.C_drew ?_))); (case side2 => exact HC0.out); rintro e w' ⟨rfl, ⟨nd, rfl⟩⟩; refine ⟨_, rfl, ?_⟩))
          (try simp only [Act.put, List.setIfInBounds_toArray, List.set_cons_zero, List.set_cons_succ])
          go_cut [42] (fun v42 wc => ∃ (kq : Nat) (x42_15 : Bool), v42 = .bool x42_15 ∧ Aside0 (spec_l1look.j0 kq a1 (wrap64 ((wrap64 ((l0.length : Int) - t178)) - 18)) x42_15 = some r) ∧ Aside0 (kq ≤ k) ∧ Aside0 (Below w.heap.size w wc))
          case first =>
            have H := HC16.out
            clear HC16
            by_cases c17 : (wrap64 ((wrap64 ((l0.length : Int) - t178)) - 18)) < 6
            · rw [if_pos c17] at H
              have c17b0 : decide ((wrap64 ((wrap64 ((l0.length : Int) - t178)) - 18)) < 6) = true := decide_eq_true c17
              clear c17
              (first | rw [c17b0] | (simp only [i64_w, i32_w]; rw [c17b0]) | skip)
              have H' := Aside0.mk H
              clear H
              go_wp2
              go_meet
              case rel => exact ⟨_, ((a1 == 48)), (by first | rfl | (simp; done) | (simp [*]; done)), H', ⟨by first | omega | exact Nat.le_refl _⟩, ⟨by repeat (first | (with_reducible first | exact HB.out | apply below_alloc | apply pw_below_drewN | apply below_drew1) | exact HB.out)⟩⟩
            · rw [if_neg c17] at H
              have c17b0 : decide ((wrap64 ((wrap64 ((l0.length : Int) - t178)) - 18)) < 6) = false := decide_eq_false c17
              clear c17
              (first | rw [c17b0] | (simp only [i64_w, i32_w]; rw [c17b0]) | skip)
              have H' := Aside0.mk H
              clear H
              go_wp2
              go_meet
              case rel => exact ⟨_, (false), (by first | rfl | (simp; done) | (simp [*]; done)), H', ⟨by first | omega | exact Nat.le_refl _⟩, ⟨by repeat (first | (with_reducible first | exact HB.out | apply below_alloc | apply pw_below_drewN | apply below_drew1) | exact HB.out)⟩⟩
          case rest =>
            clear HC16
            try clear c1
            try clear p2
            try clear c4
            try clear c4b0
            try clear c4b1
            try clear c5
            try clear c5b0
            try clear c5b1
            try clear c6
            try clear c6b0
            try clear c6b1
            try clear p6
            try clear c7
            try clear c7b0
            try clear c7b1
            try clear c8
            try clear c8b0
            try clear c8b1
            try clear c9
            try clear c9b0
            try clear c9b1
            try clear c10
            try clear c11
            try clear c13
            try clear c14
            try clear c14b0
            try clear c14b1
            try clear c17
            try clear c17b0
            obtain ⟨kq, x42_15, rfl, HA, HJ15, HB⟩ := hcut
            cases kq with
            | zero => exact absurd HA.out (by simp [spec_l1look.j0])
            | succ kj15 =>
              have H := HA.out
              clear HA
              simp only [spec_l1look.j0] at H
              by_cases c18 : x42_15 = true
              · subst c18
                have H1 : (some 4) = some r := by rw [if_pos rfl] at H; exact H
                clear H
                have H := H1
                clear H1
                obtain rfl := Option.some.inj H
                go_wp2
                go_ret
                exact ⟨by first | rfl | (simp [errW_none, errW_some] <;> rfl) | (simp [*, errW_none, errW_some] <;> rfl), by repeat (first | (with_reducible first | exact HB.out | apply below_alloc | apply pw_below_drewN | apply below_drew1) | exact HB.out)⟩
              · replace c18 := Bool.eq_false_iff.mpr c18
                subst c18
                have H1 : (if (wrap64 ((wrap64 ((l0.length : Int) - t178)) - 18)) = 5 then (some 1) else (if (wrap64 ((wrap64 ((l0.length : Int) - t178)) - 18)) = 6 then (spec_l1look.j1 kj15 (wrap64 ((wrap64 ((l0.length : Int) - t178)) - 18)) (a1 == 48)) else (spec_l1look.j1 kj15 (wrap64 ((wrap64 ((l0.length : Int) - t178)) - 18)) false))) = some r := by rw [if_neg (show ¬ (false = true) by decide)] at H; exact H
                clear H
                have H := H1
                clear H1
                by_cases c19 : (wrap64 ((wrap64 ((l0.length : Int) - t178)) - 18)) = 5
                · rw [if_pos c19] at H
                  have c19b0 : ((wrap64 ((wrap64 ((l0.length : Int) - t178)) - 18)) == 5) = true := beq_iff_eq.mpr c19
                  have c19b1 : ((wrap64 ((wrap64 ((l0.length : Int) - t178)) - 18)) != 5) = false := bne_eq_false_iff_eq.mpr c19
                  clear c19
                  obtain rfl := Option.some.inj H
                  go_wp2
                  go_ret
                  exact ⟨by first | rfl | (simp [errW_none, errW_some] <;> rfl) | (simp [*, errW_none, errW_some] <;> rfl), by repeat (first | (with_reducible first | exact HB.out | apply below_alloc | apply pw_below_drewN | apply below_drew1) | exact HB.out)⟩
                · rw [if_neg c19] at H
                  have c19b0 : ((wrap64 ((wrap64 ((l0.length : Int) - t178)) - 18)) == 5) = false := beq_eq_false_iff_ne.mpr c19
                  have c19b1 : ((wrap64 ((wrap64 ((l0.length : Int) - t178)) - 18)) != 5) = true := bne_iff_ne.mpr c19
                  have HC20 := Aside0.mk H
                  clear H
                  go_upto_region 20 with (fail)
                  go_cut [50] (fun v50 wc => ∃ (kq : Nat) (x50_19 : Bool), v50 = .bool x50_19 ∧ Aside0 (spec_l1look.j1 kq (wrap64 ((wrap64 ((l0.length : Int) - t178)) - 18)) x50_19 = some r) ∧ Aside0 (kq ≤ kj15) ∧ Aside0 (Below w.heap.size w wc))
                  case first =>
                    have H := HC20.out
                    clear HC20
                    by_cases c21 : (wrap64 ((wrap64 ((l0.length : Int) - t178)) - 18)) = 6
                    · rw [if_pos c21] at H
                      have c21b0 : ((wrap64 ((wrap64 ((l0.length : Int) - t178)) - 18)) == 6) = true := beq_iff_eq.mpr c21
                      have c21b1 : ((wrap64 ((wrap64 ((l0.length : Int) - t178)) - 18)) != 6) = false := bne_eq_false_iff_eq.mpr c21
                      clear c21
                      (first | rw [c21b0] | (simp only [i64_w, i32_w]; rw [c21b0]) | skip)
                      have H' := Aside0.mk H
                      clear H
                      go_wp2
                      go_meet
                      case rel => exact ⟨_, ((a1 == 48)), (by first | rfl | (simp; done) | (simp [*]; done)), H', ⟨by have := HJ15.out; first | omega | exact Nat.le_refl _⟩, ⟨by repeat (first | (with_reducible first | exact HB.out | apply below_alloc | apply pw_below_drewN | apply below_drew1) | exact HB.out)⟩⟩
                    · rw [if_neg c21] at H
                      have c21b0 : ((wrap64 ((wrap64 ((l0.length : Int) - t178)) - 18)) == 6) = false := beq_eq_false_iff_ne.mpr c21
                      have c21b1 : ((wrap64 ((wrap64 ((l0.length : Int) - t178)) - 18)) != 6) = true := bne_iff_ne.mpr c21
                      (first | rw [c21b0] | (simp only [i64_w, i32_w]; rw [c21b0]) | skip)
                      have H' := Aside0.mk H
                      clear H
                      go_wp2
                      go_meet
                      case rel => exact ⟨_, (false), (by first | rfl | (simp; done) | (simp [*]; done)), H', ⟨by have := HJ15.out; first | omega | exact Nat.le_refl _⟩, ⟨by repeat (first | (with_reducible first | exact HB.out | apply below_alloc | apply pw_below_drewN | apply below_drew1) | exact HB.out)⟩⟩
                  case rest =>
                    clear HC20
                    try clear c1
                    try clear c2
                    try clear p2
                    try clear c4
                    try clear c4b0
                    try clear c4b1
                    try clear c5
                    try clear c5b0
                    try clear c5b1
                    try clear c6
                    try clear c6b0
                    try clear c6b1
                    try clear p6
                    try clear c7
                    try clear c7b0
                    try clear c7b1
                    try clear c8
                    try clear c8b0
                    try clear c8b1
                    try clear c9
                    try clear c9b0
                    try clear c9b1
                    try clear c10
                    try clear c11
                    try clear c13
                    try clear c14
                    try clear c14b0
                    try clear c14b1
                    try clear c17
                    try clear c17b0
                    try clear c18
                    try clear c19
                    try clear c19b0
                    try clear c19b1
                    try clear c21
                    try clear c21b0
                    try clear c21b1
                    try clear p2
                    try clear p6
                    obtain ⟨kq, x50_19, rfl, HA, HJ19, HB⟩ := hcut
                    cases kq with
                    | zero => exact absurd HA.out (by simp [spec_l1look.j1])
                    | succ kj19 =>
                      have H := HA.out
                      clear HA
                      simp only [spec_l1look.j1] at H
                      by_cases c22 : x50_19 = true
                      · subst c22
                        have H1 : (some 6) = some r := by rw [if_pos rfl] at H; exact H
                        clear H
                        have H := H1
                        clear H1
                        obtain rfl := Option.some.inj H
                        go_wp2
                        go_ret
                        exact ⟨by first | rfl | (simp [errW_none, errW_some] <;> rfl) | (simp [*, errW_none, errW_some] <;> rfl), by repeat (first | (with_reducible first | exact HB.out | apply below_alloc | apply pw_below_drewN | apply below_drew1) | exact HB.out)⟩
                      · replace c22 := Bool.eq_false_iff.mpr c22
                        subst c22
                        have H1 : (if (wrap64 ((wrap64 ((l0.length : Int) - t178)) - 18)) = 6 then (some 2) else (some 0)) = some r := by rw [if_neg (show ¬ (false = true) by decide)] at H; exact H
                        clear H
                        have H := H1
                        clear H1
                        by_cases c23 : (wrap64 ((wrap64 ((l0.length : Int) - t178)) - 18)) = 6
                        · rw [if_pos c23] at H
                          have c23b0 : ((wrap64 ((wrap64 ((l0.length : Int) - t178)) - 18)) == 6) = true := beq_iff_eq.mpr c23
                          have c23b1 : ((wrap64 ((wrap64 ((l0.length : Int) - t178)) - 18)) != 6) = false := bne_eq_false_iff_eq.mpr c23
                          clear c23
                          obtain rfl := Option.some.inj H
                          go_wp2
                          go_ret
                          exact ⟨by first | rfl | (simp [errW_none, errW_some] <;> rfl) | (simp [*, errW_none, errW_some] <;> rfl), by repeat (first | (with_reducible first | exact HB.out | apply below_alloc | apply pw_below_drewN | apply below_drew1) | exact HB.out)⟩
                        · rw [if_neg c23] at H
                          have c23b0 : ((wrap64 ((wrap64 ((l0.length : Int) - t178)) - 18)) == 6) = false := beq_eq_false_iff_ne.mpr c23
                          have c23b1 : ((wrap64 ((wrap64 ((l0.length : Int) - t178)) - 18)) != 6) = true := bne_iff_ne.mpr c23
                          obtain rfl := Option.some.inj H
                          go_wp2
                          go_ret
                          exact ⟨by first | rfl | (simp [errW_none, errW_some] <;> rfl) | (simp [*, errW_none, errW_some] <;> rfl), by repeat (first | (with_reducible first | exact HB.out | apply below_alloc | apply pw_below_drewN | apply below_drew1) | exact HB.out)⟩
        · rw [if_neg c14] at H
          have c14b0 : (t175 == 14) = false := beq_eq_false_iff_ne.mpr c14
          have c14b1 : (t175 != 14) = true := bne_iff_ne.mpr c14
          obtain rfl := Option.some.inj H
          go_enter Try.func138, Try.ntmps138
          go_wp2_with (first | ((with_reducible refine gate_callee (f := 87) rfl ?_); refine goesL_ (some 9) rfl rfl Try.func87 (by kernel_rfl) rfl #[.slice A0 l0.length c0] rfl (by (try simp only [List.map_toArray, List.map_cons, List.map_nil]); first | done | rfl | (simp only [List.length_drop, List.length_take]; rfl)) ?_; (with_reducible refine (spec_l1field.calls k _ _ l0 t175 _ ?side1 ?side2 A3.out).mono ?_); (case side1 => repeat (first | exact HR0.out | (with_reducible refine Kd.C_alloc ?_ _) | (with_reducible refine Kd.C_drewN ?_ _) | (with_reducible refine Kd.C_drew ?_))); (case side2 => exact HC0.out); rintro e w' ⟨rfl, ⟨nd, rfl⟩⟩; refine ⟨_, rfl, ?_⟩))
          go_ret
          exact ⟨by first | rfl | (simp [errW_none, errW_some] <;> rfl) | (simp [*, errW_none, errW_some] <;> rfl), by repeat (first | (with_reducible first | exact HB.out | apply below_alloc | apply pw_below_drewN | apply below_drew1) | exact HB.out)⟩
end Go.Proofs.Ytdoclpgciadjaaa.P

namespace Go.Proofs.Ytdoclpgciadjaaa.P
open Go Go.RowKit Go.Proofs.YtdoclpgciadjaaaW.PrintWords
set_option linter.unusedVariables false
theorem rd_app_at (S Y : List Int) (a : Int) : rd (S ++ a :: Y) (S.length : Int) = a := by
  unfold rd
  rw [Int.toNat_natCast, List.getD_eq_getElem?_getD, List.getElem?_append_right (Nat.le_refl _), Nat.sub_self]; rfl
theorem bt_str (l : List Int) (i : Nat) (h : i < l.length) (hb : ∀ x ∈ l, 0 ≤ x ∧ x < 256) : bt (strOfNums l) (i : Int) = rd l (i : Int) := by
  have hs : i < (strOfNums l).size := by rw [strOfNums_size]; exact h
  rw [bt_eq _ i hs]
  have h2 : (bytesOf (strOfNums l))[i]? = some (((strOfNums l)[i]'hs).toNat : Int) := by
    unfold bytesOf
    rw [List.getElem?_map, Array.getElem?_toList, Array.getElem?_eq_getElem (show i < (strOfNums l).data.size from hs)]
    rfl
  rw [bytes_str l hb] at h2
  unfold rd
  rw [Int.toNat_natCast, List.getD_eq_getElem?_getD, h2]
  rfl
theorem val_ev (l : List Int) (hb : Bits l) (hl : l.length ≤ 40) : Ev (fun k => spec_l1val.f k (strOfNums l)) (V l) := by
  have loop : ∀ (d i : Nat), i + d = l.length → Ev (fun k => spec_l1val.l0 k (strOfNums l) (V (l.take i)) (i : Int)) (V l) := by
    intro d
    induction d with
    | zero =>
      intro i hi
      refine Ev.step (f := fun _ => some (V l)) (fun k => ?_) (Ev.now _)
      simp only [spec_l1val.l0]
      rw [if_neg (by rw [strOfNums_size]; omega), List.take_of_length_le (by omega)]
    | succ d ih =>
      intro i hi
      refine Ev.step (f := fun k => spec_l1val.l0 k (strOfNums l) (V (l.take (i + 1))) ((i + 1 : Nat) : Int)) (fun k => ?_) (ih (i + 1) (by omega))
      have ht : l.take (i + 1) = l.take i ++ [rd l (i : Int)] := by
        rw [List.take_succ_eq_append_getElem (by omega)]
        congr 2
        have := rd_get l i (by omega)
        rw [List.getElem?_eq_getElem (by omega)] at this
        exact Option.some.inj this
      have hbt : Bits (l.take i) := fun x hx => hb x (List.mem_of_mem_take hx)
      have hv := V_lt hbt (n := 40) (by rw [List.length_take]; omega) (m := 1099511627776) (by decide)
      have hv0 := (V_range hbt).1
      have hm : rd l (i : Int) = 48 ∨ rd l (i : Int) = 49 := hb _ (by have := rd_get l i (by omega); exact List.mem_of_getElem? this)
      rw [ht, V_snoc]
      simp only [spec_l1val.l0]
      have w2 : wrap64 (2 * V (l.take i)) = 2 * V (l.take i) := by unfold wrap64; omega
      have w3 : wrap64 (2 * V (l.take i) + 1) = 2 * V (l.take i) + 1 := by unfold wrap64; omega
      rw [if_pos (by rw [strOfNums_size]; omega), if_pos (by omega), bt_str l i (by omega) hb.range, w2, w3, w64 (by omega) (by omega)]
      rcases hm with e | e
      · rw [if_neg (by omega), e]; simp
      · rw [if_pos e, e]; simp
  have h0 := loop l.length 0 (by omega)
  exact h0
theorem hd_len {H : List Int} {e r : Bool} {i : Int} (h : Hd H e r i) : H.length = if e = true then 35 else 15 := by
  cases h with
  | base a r z I h => simp [h]
  | ext a r q z y I J h k => simp [h, k]
theorem hd_13 {H : List Int} {e r : Bool} {i : Int} (h : Hd H e r i) (R : List Int) : rd (H ++ R) 13 = if e = true then 49 else 48 := by
  cases h with
  | base a r z I h =>
    have := rd_app_at (a :: I ++ [r]) ([z] ++ R) 48
    rw [show (((a :: I ++ [r]).length : Nat) : Int) = 13 by simp [h]] at this
    rw [show a :: I ++ [r, 48, z] ++ R = (a :: I ++ [r]) ++ 48 :: ([z] ++ R) by simp]
    exact this
  | ext a r q z y I J h k =>
    have := rd_app_at (a :: I ++ [r]) (J ++ [q, z, y] ++ R) 49
    rw [show (((a :: I ++ [r]).length : Nat) : Int) = 13 by simp [h]] at this
    rw [show a :: I ++ [r, 49] ++ J ++ [q, z, y] ++ R = (a :: I ++ [r]) ++ 49 :: (J ++ [q, z, y] ++ R) by simp]
    exact this
theorem hd_rtr {H : List Int} {e r : Bool} {i : Int} (h : Hd H e r i) (R : List Int) : (rd (H ++ R) (if e = true then 32 else 12) == 49) = r := by
  cases h with
  | base a r z I h =>
    have := rd_app_at (a :: I) ([48, z] ++ R) r
    rw [show (((a :: I).length : Nat) : Int) = 12 by simp [h]] at this
    rw [show a :: I ++ [r, 48, z] ++ R = (a :: I) ++ r :: ([48, z] ++ R) by simp]
    simp only [Bool.false_eq_true, if_false]
    rw [this]
  | ext a r q z y I J h k =>
    have := rd_app_at (a :: I ++ [r, 49] ++ J) ([z, y] ++ R) q
    rw [show (((a :: I ++ [r, 49] ++ J).length : Nat) : Int) = 32 by simp [h, k]] at this
    rw [show a :: I ++ [r, 49] ++ J ++ [q, z, y] ++ R = (a :: I ++ [r, 49] ++ J) ++ q :: ([z, y] ++ R) by simp]
    simp only [if_true]
    rw [this]
theorem lay_full {H D R : List Int} {e r : Bool} {i : Int} (h : Hd H e r i) (d : D.length = 4) (hb : Bits D) (hn : R.length ≤ 4000) :
    Ev (fun k => spec_l1lay.f k (H ++ D ++ R)) ((H.length : Int) + 4, (H.length : Int) + 4 + 8 * dataB r (V D)) := by
  have hl := hd_len h
  have h13 := hd_13 h (D ++ R)
  have hr := hd_rtr h (D ++ R)
  rw [← List.append_assoc] at h13 hr
  have hlen : (H ++ D ++ R).length = H.length + 4 + R.length := by simp [d]; omega
  have hv0 := (V_range hb).1
  have hv1 := V_lt hb (n := 4) (by omega) (m := 16) (by decide)
  have hsl : ((H ++ D ++ R).take (((H.length : Int) + 4).toNat)).drop (((H.length : Int) + 4 - 4).toNat) = D := by
    rw [show ((H.length : Int) + 4).toNat = (H ++ D).length by simp [d]; omega, List.take_left, show ((H.length : Int) + 4 - 4).toNat = H.length by omega, List.drop_left]
  have hval := val_ev D hb (by omega)
  have j1 : Ev (fun k => spec_l1lay.j1 k (H ++ D ++ R) ((H.length : Int) + 4) r) ((H.length : Int) + 4, (H.length : Int) + 4 + 8 * dataB r (V D)) := by
    have hH : (H.length : Int) ≤ 35 := by rw [hl]; split <;> omega
    have w1 : wrap64 ((H.length : Int) + 4 - 4) = (H.length : Int) + 4 - 4 := w64 (by omega) (by omega)
    refine Ev.step (f := fun k => (spec_l1val.f k (strOfNums D)).bind fun t265 => (if t265 > 8 then (if r = true then (some ((H.length : Int) + 4, wrap64 ((H.length : Int) + 4 + (8 * 0)))) else (some ((H.length : Int) + 4, wrap64 ((H.length : Int) + 4 + (8 * 8))))) else (if r = true then (some ((H.length : Int) + 4, wrap64 ((H.length : Int) + 4 + (8 * 0)))) else (some ((H.length : Int) + 4, wrap64 ((H.length : Int) + 4 + (wrap64 (8 * t265)))))))) (fun k => ?_) (Ev.bind hval ?_)
    · simp only [spec_l1lay.j1]
      rw [w1, if_pos (by omega), if_pos (by omega), if_pos (by omega), hsl]
    · unfold dataB
      by_cases c8 : V D > 8
      · refine ev_pos c8 ?_
        cases r with
        | true => refine ev_pos rfl ?_; rw [if_pos rfl, w64 (by omega) (by omega)]; exact Ev.now _
        | false => refine ev_neg (by decide) ?_; rw [if_neg (by decide), if_pos c8, w64 (by omega) (by omega)]; exact Ev.now _
      · refine ev_neg c8 ?_
        cases r with
        | true => refine ev_pos rfl ?_; rw [if_pos rfl, w64 (by omega) (by omega)]; exact Ev.now _
        | false => refine ev_neg (by decide) ?_; rw [if_neg (by decide), if_neg c8, w64 (x := 8 * V D) (by omega) (by omega), w64 (by omega) (by omega)]; exact Ev.now _
  unfold spec_l1lay.f
  cases e with
  | true =>
    simp only [if_true] at hl h13 hr
    rw [hl] at j1 ⊢
    refine ev_neg (by omega) (ev_pos (by omega) (ev_pos h13 ?_))
    refine Ev.step (f := fun k => spec_l1lay.j1 k (H ++ D ++ R) 39 r) (fun k => ?_) j1
    simp only [spec_l1lay.j0]
    rw [if_neg (by omega), if_pos (by omega), if_pos (by decide), if_pos (by omega), hr]
  | false =>
    simp only [Bool.false_eq_true, if_false] at hl h13 hr
    rw [hl] at j1 ⊢
    refine ev_neg (by omega) (ev_pos (by omega) (ev_neg (by omega) ?_))
    refine Ev.step (f := fun k => spec_l1lay.j1 k (H ++ D ++ R) 19 r) (fun k => ?_) j1
    simp only [spec_l1lay.j0]
    rw [if_neg (by omega), if_pos (by omega), if_neg (by decide), hr]
theorem lay_part {p : List Int} {e : Bool} (h13 : rd p 13 = if e = true then 49 else 48) (hn : 14 ≤ p.length) (hl : p.length < if e = true then 39 else 19) : Ev (fun k => spec_l1lay.f k p) (if e = true then 39 else 19, 0) := by
  unfold spec_l1lay.f
  cases e with
  | true =>
    simp only [if_true] at h13 hl ⊢
    refine ev_neg (by omega) (ev_pos (by omega) (ev_pos h13 ?_))
    refine Ev.step (f := fun _ => some (39, 0)) (fun k => ?_) (Ev.now _)
    simp only [spec_l1lay.j0]
    rw [if_pos (by omega)]
  | false =>
    simp only [Bool.false_eq_true, if_false] at h13 hl ⊢
    refine ev_neg (by omega) (ev_pos (by omega) (ev_neg (by omega) ?_))
    refine Ev.step (f := fun _ => some (19, 0)) (fun k => ?_) (Ev.now _)
    simp only [spec_l1lay.j0]
    rw [if_pos (by omega)]
theorem field_full {H D R : List Int} {e r : Bool} {i : Int} (h : Hd H e r i) (d : D.length = 4) (hb : Bits D) (hn : R.length ≤ 4000) :
    Ev (fun k => spec_l1field.f k (H ++ D ++ R)) (if (R.length : Int) < 8 * dataB r (V D) then 9 else if (R.length : Int) < 8 * dataB r (V D) + 15 then 10 else if (R.length : Int) < 8 * dataB r (V D) + 18 then 11 + ((R.length : Int) - 8 * dataB r (V D) - 15) else if (R.length : Int) < 8 * dataB r (V D) + 25 then 14 else 15) := by
  have hl := hd_len h
  have hH : H.length = 15 ∨ H.length = 35 := by rw [hl]; split <;> omega
  have hd := dataB_range (r := r) (V_range hb).1
  have hlen : (H ++ D ++ R).length = H.length + 4 + R.length := by simp [d]; omega
  unfold spec_l1field.f
  rw [hlen]
  refine ev_neg (by omega) (ev_neg (by omega) (ev_neg (by omega) (ev_neg (by omega) (Ev.bind (lay_full h d hb hn) (ev_neg (by simp only []; omega) ?_)))))
  simp only []
  rw [w64 (x := (H.length : Int) + 4 + 8 * dataB r (V D) + 15) (by omega) (by omega), w64 (x := (H.length : Int) + 4 + 8 * dataB r (V D) + 18) (by omega) (by omega), w64 (x := (H.length : Int) + 4 + 8 * dataB r (V D) + 25) (by omega) (by omega)]
  by_cases c1 : (R.length : Int) < 8 * dataB r (V D)
  · rw [if_pos c1]; exact ev_pos (by omega) (Ev.now _)
  rw [if_neg c1]; refine ev_neg (by omega) ?_
  by_cases c2 : (R.length : Int) < 8 * dataB r (V D) + 15
  · rw [if_pos c2]; exact ev_pos (by omega) (Ev.now _)
  rw [if_neg c2]; refine ev_neg (by omega) ?_
  by_cases c3 : (R.length : Int) < 8 * dataB r (V D) + 18
  · rw [if_pos c3]; refine ev_pos (by omega) ?_
    have e : wrap64 (wrap64 (wrap64 (11 + ((H.length + 4 + R.length : Nat) : Int)) - ((H.length : Int) + 4 + 8 * dataB r (V D))) - 15) = 11 + ((R.length : Int) - 8 * dataB r (V D) - 15) := by unfold wrap64; omega
    rw [e]; exact Ev.now _
  rw [if_neg c3]; refine ev_neg (by omega) ?_
  by_cases c4 : (R.length : Int) < 8 * dataB r (V D) + 25
  · rw [if_pos c4]; exact ev_pos (by omega) (Ev.now _)
  · rw [if_neg c4]; exact ev_neg (by omega) (Ev.now _)
theorem field_part {p : List Int} {e : Bool} (h13 : rd p 13 = if e = true then 49 else 48) (hn : 14 ≤ p.length) (hl : p.length < if e = true then 39 else 19) :
    Ev (fun k => spec_l1field.f k p) (if e = true then (if p.length < 32 then 5 else if p.length = 32 then 6 else if p.length < 35 then 7 else 8) else (if p.length < 15 then 7 else 8)) := by
  unfold spec_l1field.f
  refine ev_neg (by omega) (ev_neg (by omega) (ev_neg (by omega) (ev_neg (by omega) (Ev.bind (lay_part h13 hn hl) ?_))))
  cases e with
  | true =>
    simp only [if_true] at hl ⊢
    rw [w64 (x := (39 : Int) - 4) (by omega) (by omega)]
    refine ev_pos (by omega) ?_
    by_cases c : p.length < 32
    · rw [if_pos c]; exact ev_neg (by omega) (ev_neg (by omega) (ev_pos (by omega) (Ev.now _)))
    rw [if_neg c]
    by_cases c2 : p.length = 32
    · rw [if_pos c2]; exact ev_neg (by omega) (ev_neg (by omega) (ev_neg (by omega) (ev_pos (by omega) (Ev.now _))))
    rw [if_neg c2]
    by_cases c3 : p.length < 35
    · rw [if_pos c3]; exact ev_neg (by omega) (ev_neg (by omega) (ev_neg (by omega) (ev_neg (by omega) (Ev.now _))))
    · rw [if_neg c3]; exact ev_pos (by omega) (Ev.now _)
  | false =>
    simp only [Bool.false_eq_true, if_false] at hl ⊢
    rw [w64 (x := (19 : Int) - 4) (by omega) (by omega)]
    refine ev_pos (by omega) ?_
    by_cases c : p.length < 15
    · rw [if_pos c]; exact ev_neg (by omega) (ev_pos (by decide) (Ev.now _))
    · rw [if_neg c]; exact ev_pos (by omega) (Ev.now _)
theorem field_ev {p : List Int} {c : Int × Int × Int × Bool × Int × Bool × Int × List Int} {m : Int} (h : Ph p c m) (hp : Bits p) : Ev (fun k => spec_l1field.f k p) c.1 := by
  have few : ∀ {q : List Int} {v : Int}, (q.length = 0 ∧ v = 1 ∨ (0 < q.length ∧ q.length < 12) ∧ v = 2 ∨ q.length = 12 ∧ v = 3 ∨ q.length = 13 ∧ v = 4) → Ev (fun k => spec_l1field.f k q) v := by
    intro q v hq
    unfold spec_l1field.f
    rcases hq with ⟨h, rfl⟩ | ⟨h, rfl⟩ | ⟨h, rfl⟩ | ⟨h, rfl⟩
    · exact ev_pos (by omega) (Ev.now _)
    · exact ev_neg (by omega) (ev_pos (by omega) (Ev.now _))
    · exact ev_neg (by omega) (ev_neg (by omega) (ev_pos (by omega) (Ev.now _)))
    · exact ev_neg (by omega) (ev_neg (by omega) (ev_neg (by omega) (ev_pos (by omega) (Ev.now _))))
  have r13 : ∀ (a r z : Int) (I R : List Int), I.length = 11 → rd (a :: I ++ [r] ++ z :: R) 13 = z := by
    intro a r z I R h
    have := rd_app_at (a :: I ++ [r]) R z
    rw [show (((a :: I ++ [r]).length : Nat) : Int) = 13 by simp [h]] at this
    exact this
  cases h with
  | sof => exact few (by simp)
  | ida a I h => exact few (by simp; omega)
  | rtr a I h => exact few (by simp; omega)
  | ide a r I h => exact few (by simp; omega)
  | idb a r I J h k =>
    have := field_part (p := a :: I ++ [r, 49] ++ J) (e := true) (by have := r13 a r 49 I J h; simpa using this) (by simp; omega) (by simp; omega)
    simp only [if_true] at this
    rw [if_pos (by simp; omega)] at this
    exact this
  | rtrx a r I J h k =>
    have := field_part (p := a :: I ++ [r, 49] ++ J) (e := true) (by have := r13 a r 49 I J h; simpa using this) (by simp; omega) (by simp; omega)
    simp only [if_true] at this
    rw [if_neg (by simp; omega), if_pos (by simp; omega)] at this
    exact this
  | resx a r q I J Z h k z =>
    have := field_part (p := a :: I ++ [r, 49] ++ J ++ [q] ++ Z) (e := true) (by have := r13 a r 49 I (J ++ [q] ++ Z) h; simpa using this) (by simp; omega) (by simp; omega)
    simp only [if_true] at this
    rw [if_neg (by simp; omega), if_neg (by simp; omega), if_pos (by simp; omega)] at this
    exact this
  | resb a r I h =>
    have := field_part (p := a :: I ++ [r, 48]) (e := false) (by have := r13 a r 48 I [] h; simpa using this) (by simp; omega) (by simp; omega)
    simp only [Bool.false_eq_true, if_false] at this
    rw [if_pos (by simp; omega)] at this
    exact this
  | dlc H D e r i h d =>
    have hl := hd_len h
    have hlen : (H ++ D).length = H.length + D.length := by simp
    have := field_part (p := H ++ D) (e := e) (hd_13 h D) (by rw [hlen, hl]; split <;> omega) (by rw [hlen, hl]; split <;> omega)
    cases e with
    | true =>
      simp only [if_true] at this hl
      rw [hlen, if_neg (by omega), if_neg (by omega), if_neg (by omega)] at this
      exact this
    | false =>
      simp only [Bool.false_eq_true, if_false] at this hl
      rw [hlen, if_neg (by omega)] at this
      exact this
  | data H D X e r i h d x =>
    have hD : Bits D := bits_len hp D (fun x hx => by simp [hx])
    have hr := dataB_range (r := r) (V_range hD).1
    have := field_full (R := X) h d hD (by omega)
    rw [if_pos x] at this
    exact this
  | crc H D X C e r i h d x c =>
    have hD : Bits D := bits_len hp D (fun x hx => by simp [hx])
    have hr := dataB_range (r := r) (V_range hD).1
    have := field_full (R := X ++ C) h d hD (by simp; omega)
    rw [if_neg (by simp; omega), if_pos (by simp; omega), ← List.append_assoc] at this
    exact this
  | del H D X C T e r i h d x c t =>
    have hD : Bits D := bits_len hp D (fun x hx => by simp [hx])
    have hr := dataB_range (r := r) (V_range hD).1
    have := field_full (R := X ++ C ++ T) h d hD (by simp; omega)
    rw [if_neg (by simp; omega), if_neg (by simp; omega), if_pos (by simp; omega), ← List.append_assoc, ← List.append_assoc, show 11 + (((X ++ C ++ T).length : Int) - 8 * dataB r (V D) - 15) = 11 + (T.length : Int) by simp; omega] at this
    exact this
  | eof H D X C T e r i h d x c t3 t =>
    have hD : Bits D := bits_len hp D (fun x hx => by simp [hx])
    have hr := dataB_range (r := r) (V_range hD).1
    have := field_full (R := X ++ C ++ T) h d hD (by simp; omega)
    rw [if_neg (by simp; omega), if_neg (by simp; omega), if_neg (by simp; omega), if_pos (by simp; omega), ← List.append_assoc, ← List.append_assoc] at this
    exact this
end Go.Proofs.Ytdoclpgciadjaaa.P

namespace Go.Proofs.Ytdoclpgciadjaaa.P
open Go Go.RowKit Go.Proofs.YtdoclpgciadjaaaW.PrintWords
set_option linter.unusedVariables false
theorem ph_ok {p : List Int} {c : Int × Int × Int × Bool × Int × Bool × Int × List Int} {m : Int} (h : Ph p c m) (hp : Bits p) (s : WS) (hs : core s = c) (hr0 : 0 ≤ s.run) (hr1 : s.run ≤ 5) : WOk s := by
  have mk : ∀ {f l g : Int} {e : Bool} {i : Int} {r : Bool} {d : Int} {x : List Int}, CoreIs s f l g e i r d x s.sum → 1 ≤ f → f ≤ 14 → 1 ≤ l → l ≤ 64 → 0 ≤ d → d ≤ 15 → 0 ≤ g → g < 32768 → 0 ≤ i → i < 4294967296 → (f = 9 → l % 8 ≠ 0 → x ≠ []) → (∀ y ∈ x, 0 ≤ y ∧ y < 256) → x.length ≤ 100 → WOk s := by
    intro f l g e i r d x C a1 a2 a3 a4 a5 a6 a7 a8 a9 a10 a11 a12 a13
    obtain ⟨h1, h2, h3, h4, h5, h6, h7, h8, -⟩ := C
    subst h1 h2 h3 h5 h7 h8
    exact ⟨a1, a2, a3, a4, hr0, hr1, a5, a6, a7, a8, a9, a10, a11, a12, a13⟩
  have nob : ∀ y ∈ ([] : List Int), (0 : Int) ≤ y ∧ y < 256 := fun y hy => by cases hy
  have sub : ∀ {q : List Int}, (∀ x ∈ q, x ∈ p) → Bits q := fun hq x hx => hp x (hq x hx)
  have hdI : ∀ {H : List Int} {e r : Bool} {i : Int}, Hd H e r i → (∀ x ∈ H, x ∈ p) → 0 ≤ i ∧ i < 4294967296 := by
    intro H e r i hh hq
    cases hh with
    | base a r z I h =>
      have hI : Bits I := sub (fun x hx => hq x (by simp [hx]))
      exact ⟨(V_range hI).1, V_lt hI (n := 32) (by omega) (by decide)⟩
    | ext a r q z y I J h k =>
      have hI : Bits (I ++ J) := sub (fun x hx => hq x (by rcases List.mem_append.1 hx with h2 | h2 <;> simp [h2]))
      exact ⟨(V_range hI).1, V_lt hI (n := 32) (by simp; omega) (by decide)⟩
  have dB : ∀ {D : List Int}, D.length ≤ 4 → (∀ x ∈ D, x ∈ p) → 0 ≤ V D ∧ V D ≤ 15 := by
    intro D hd hq
    have h1 := V_lt (sub hq) hd (m := 16) (by decide)
    exact ⟨(V_range (sub hq)).1, by omega⟩
  have gB : ∀ {C : List Int}, C.length ≤ 15 → (∀ x ∈ C, x ∈ p) → 0 ≤ V C ∧ V C < 32768 := by
    intro C hd hq
    exact ⟨(V_range (sub hq)).1, V_lt (sub hq) hd (m := 32768) (by decide)⟩
  cases h with
  | sof => exact mk (core_is hs rfl) (by decide) (by decide) (by decide) (by decide) (by decide) (by decide) (by decide) (by decide) (by decide) (by decide) (fun h => absurd h (by decide)) nob (by simp)
  | ida a I h =>
    have hI : Bits I := sub (fun x hx => by simp [hx])
    exact mk (core_is hs rfl) (by decide) (by decide) (by omega) (by omega) (by decide) (by decide) (by decide) (by decide) (V_range hI).1 (V_lt hI (n := 32) (by omega) (by decide)) (fun h => absurd h (by decide)) nob (by simp)
  | rtr a I h =>
    have hI : Bits I := sub (fun x hx => by simp [hx])
    exact mk (core_is hs rfl) (by decide) (by decide) (by omega) (by omega) (by decide) (by decide) (by decide) (by decide) (V_range hI).1 (V_lt hI (n := 32) (by omega) (by decide)) (fun h => absurd h (by decide)) nob (by simp)
  | ide a r I h =>
    have hI : Bits I := sub (fun x hx => by simp [hx])
    exact mk (core_is hs rfl) (by decide) (by decide) (by omega) (by omega) (by decide) (by decide) (by decide) (by decide) (V_range hI).1 (V_lt hI (n := 32) (by omega) (by decide)) (fun h => absurd h (by decide)) nob (by simp)
  | idb a r I J h k =>
    have hI : Bits (I ++ J) := sub (fun x hx => by rcases List.mem_append.1 hx with h2 | h2 <;> simp [h2])
    exact mk (core_is hs rfl) (by decide) (by decide) (by omega) (by omega) (by decide) (by decide) (by decide) (by decide) (V_range hI).1 (V_lt hI (n := 32) (by simp; omega) (by decide)) (fun h => absurd h (by decide)) nob (by simp)
  | rtrx a r I J h k =>
    have hI : Bits (I ++ J) := sub (fun x hx => by rcases List.mem_append.1 hx with h2 | h2 <;> simp [h2])
    exact mk (core_is hs rfl) (by decide) (by decide) (by omega) (by omega) (by decide) (by decide) (by decide) (by decide) (V_range hI).1 (V_lt hI (n := 32) (by simp; omega) (by decide)) (fun h => absurd h (by decide)) nob (by simp)
  | resx a r q I J Z h k z =>
    have hI : Bits (I ++ J) := sub (fun x hx => by rcases List.mem_append.1 hx with h2 | h2 <;> simp [h2])
    exact mk (core_is hs rfl) (by decide) (by decide) (by omega) (by omega) (by decide) (by decide) (by decide) (by decide) (V_range hI).1 (V_lt hI (n := 32) (by simp; omega) (by decide)) (fun h => absurd h (by decide)) nob (by simp)
  | resb a r I h =>
    have hI : Bits I := sub (fun x hx => by simp [hx])
    exact mk (core_is hs rfl) (by decide) (by decide) (by omega) (by omega) (by decide) (by decide) (by decide) (by decide) (V_range hI).1 (V_lt hI (n := 32) (by omega) (by decide)) (fun h => absurd h (by decide)) nob (by simp)
  | dlc H D e r i h d =>
    obtain ⟨i0, i1⟩ := hdI h (fun x hx => by simp [hx])
    obtain ⟨d0, d1⟩ := dB (D := D) (by omega) (fun x hx => by simp [hx])
    exact mk (core_is hs rfl) (by decide) (by decide) (by omega) (by omega) d0 d1 (by decide) (by decide) i0 i1 (fun h => absurd h (by decide)) nob (by simp)
  | data H D X e r i h d x =>
    obtain ⟨i0, i1⟩ := hdI h (fun x hx => by simp [hx])
    obtain ⟨d0, d1⟩ := dB (D := D) (by omega) (fun x hx => by simp [hx])
    have hr := dataB_range (r := r) d0
    have hlen := bytesB_length X
    exact mk (core_is hs rfl) (by decide) (by decide) (by omega) (by omega) d0 d1 (by decide) (by decide) i0 i1 (fun _ hne hx => by rw [hx] at hlen; simp at hlen; omega) (bytesB_range X) (by omega)
  | crc H D X C e r i h d x c =>
    obtain ⟨i0, i1⟩ := hdI h (fun x hx => by simp [hx])
    obtain ⟨d0, d1⟩ := dB (D := D) (by omega) (fun x hx => by simp [hx])
    obtain ⟨g0, g1⟩ := gB (C := C) (by omega) (fun x hx => by simp [hx])
    have hr := dataB_range (r := r) d0
    have hlen := bytesB_length X
    exact mk (core_is hs rfl) (by decide) (by decide) (by omega) (by omega) d0 d1 g0 g1 i0 i1 (fun h => absurd h (by decide)) (bytesB_range X) (by omega)
  | del H D X C T e r i h d x c t =>
    obtain ⟨i0, i1⟩ := hdI h (fun x hx => by simp [hx])
    obtain ⟨d0, d1⟩ := dB (D := D) (by omega) (fun x hx => by simp [hx])
    obtain ⟨g0, g1⟩ := gB (C := C) (by omega) (fun x hx => by simp [hx])
    have hr := dataB_range (r := r) d0
    have hlen := bytesB_length X
    exact mk (core_is hs rfl) (by omega) (by omega) (by omega) (by omega) d0 d1 g0 g1 i0 i1 (fun h => absurd h (by omega)) (bytesB_range X) (by omega)
  | eof H D X C T e r i h d x c t3 t =>
    obtain ⟨i0, i1⟩ := hdI h (fun x hx => by simp [hx])
    obtain ⟨d0, d1⟩ := dB (D := D) (by omega) (fun x hx => by simp [hx])
    obtain ⟨g0, g1⟩ := gB (C := C) (by omega) (fun x hx => by simp [hx])
    have hr := dataB_range (r := r) d0
    have hlen := bytesB_length X
    exact mk (core_is hs rfl) (by omega) (by omega) (by omega) (by omega) d0 d1 g0 g1 i0 i1 (fun h => absurd h (by omega)) (bytesB_range X) (by omega)
def codeL (s : WS) (b : Int) : Int :=
  if s.field = 1 then (if b = 1 then 4 else 0)
  else if s.field = 11 then (if b = 0 then 4 else 0)
  else if s.field = 13 then (if b = 0 then 4 else if crcOkW s = true then 0 else 5)
  else if s.field = 14 then (if 1 < s.left ∧ b = 0 then 4 else if s.left = 2 then 1 else if s.left = 1 ∧ b = 0 then 6 else if s.left = 1 then 2 else 0)
  else 0
theorem code_plain (s : WS) (b : Int) (h0 : s.code = 0) : (plainW s b).code = codeL s b := by
  have e1 : (sumW s b).code = 0 ∧ (sumW s b).field = s.field ∧ (sumW s b).left = s.left ∧ (10 < s.field → crcOkW (sumW s b) = crcOkW s) := by
    unfold sumW
    split
    · exact ⟨h0, rfl, rfl, fun h => by omega⟩
    · exact ⟨h0, rfl, rfl, fun _ => rfl⟩
  have e2 : (plainW s b).code = (takeW (sumW s b) b).code := by unfold plainW; rw [nextW_eq]
  rw [e2]
  obtain ⟨a1, a2, a3, a4⟩ := e1
  generalize sumW s b = t at a1 a2 a3 a4 ⊢
  unfold takeW codeL endW
  rw [a2, a3]
  by_cases c1 : s.field = 1
  · rw [if_pos c1, if_pos c1]; split <;> first | rfl | exact a1
  rw [if_neg c1, if_neg c1]
  by_cases c2 : s.field = 2 ∨ s.field = 5
  · rw [if_pos c2, if_neg (by omega), if_neg (by omega), if_neg (by omega)]; exact a1
  rw [if_neg c2]
  by_cases c3 : s.field = 3 ∨ s.field = 6
  · rw [if_pos c3, if_neg (by omega), if_neg (by omega), if_neg (by omega)]; exact a1
  rw [if_neg c3]
  by_cases c4 : s.field = 4
  · rw [if_pos c4, if_neg (by omega), if_neg (by omega), if_neg (by omega)]; exact a1
  rw [if_neg c4]
  by_cases c8 : s.field = 8
  · rw [if_pos c8, if_neg (by omega), if_neg (by omega), if_neg (by omega)]; exact a1
  rw [if_neg c8]
  by_cases c9 : s.field = 9
  · rw [if_pos c9, if_neg (by omega), if_neg (by omega), if_neg (by omega)]; exact a1
  rw [if_neg c9]
  by_cases c10 : s.field = 10
  · rw [if_pos c10, if_neg (by omega), if_neg (by omega), if_neg (by omega)]; exact a1
  rw [if_neg c10]
  by_cases c11 : s.field = 11
  · rw [if_pos c11, if_pos c11]; split <;> first | rfl | exact a1
  rw [if_neg c11, if_neg c11]
  by_cases c13 : s.field = 13
  · rw [if_pos c13, if_pos c13, a4 (by omega)]
    by_cases hb : b = 0
    · rw [if_pos hb, if_pos hb]
    · rw [if_neg hb, if_neg hb]
      by_cases hc : crcOkW s = true
      · rw [if_pos hc, if_pos hc]; exact a1
      · rw [if_neg hc, if_neg hc]
  rw [if_neg c13, if_neg c13]
  by_cases c14 : s.field = 14
  · rw [if_pos c14, if_pos c14]
    by_cases d1 : 1 < s.left ∧ b = 0
    · rw [if_pos d1, if_pos d1]
    rw [if_neg d1, if_neg d1]
    by_cases d2 : s.left = 2
    · rw [if_pos d2, if_pos d2]
    rw [if_neg d2, if_neg d2]
    by_cases d3 : s.left = 1 ∧ b = 0
    · rw [if_pos d3, if_pos d3]
    rw [if_neg d3, if_neg d3]
    by_cases d4 : s.left = 1
    · rw [if_pos d4, if_pos d4]
    · rw [if_neg d4, if_neg d4]; exact a1
  · rw [if_neg c14, if_neg c14]; exact a1
theorem crcS_crcL {l : List Int} (h : Bits l) : crcS l = (crcL l : Int) := crcI_list l h
theorem crcOk_full {H D X C T : List Int} {e r : Bool} {i : Int} (h : Hd H e r i) (d : D.length = 4) (x : (X.length : Int) = 8 * dataB r (V D)) (c : C.length = 15) (t : T.length ≤ 10) (hb : Bits (H ++ D ++ X ++ C ++ T)) :
    Ev (fun k => spec_l1crcOk.f k (H ++ D ++ X ++ C ++ T)) (crcS (H ++ D ++ X) == V C) := by
  have hD : Bits D := bits_len hb D (fun x hx => by simp [hx])
  have hC : Bits C := bits_len hb C (fun x hx => by simp [hx])
  have hB : Bits (H ++ D ++ X) := bits_len hb _ (fun x hx => by simp only [List.mem_append] at hx ⊢; exact .inl (.inl hx))
  have hl := hd_len h
  have hH : H.length = 15 ∨ H.length = 35 := by rw [hl]; split <;> omega
  have hr := dataB_range (r := r) (V_range hD).1
  have hlay := lay_full (R := X ++ C ++ T) h d hD (by simp; omega)
  rw [← List.append_assoc, ← List.append_assoc] at hlay
  have hlen : (H ++ D ++ X ++ C ++ T).length = (H ++ D ++ X).length + 15 + T.length := by simp [c]; omega
  have hlB : ((H ++ D ++ X).length : Int) = (H.length : Int) + 4 + 8 * dataB r (V D) := by simp [d]; omega
  have hlB2 : (H ++ D ++ X).length ≤ 103 := by omega
  unfold spec_l1crcOk.f
  refine Ev.bind hlay ?_
  simp only []
  rw [← hlB]
  generalize hE : H ++ D ++ X = B at *
  have w15 : wrap64 ((B.length : Int) + 15) = (B.length : Int) + 15 := w64 (by omega) (by omega)
  refine ev_neg (by omega) ?_
  rw [w15, decide_eq_false (by omega)]
  have t1 : (B ++ C ++ T).take ((B.length : Int).toNat) = B := by rw [Int.toNat_natCast, List.append_assoc, List.take_left]
  have t2 : ((B ++ C ++ T).take (((B.length : Int) + 15).toNat)).drop ((B.length : Int).toNat) = C := by
    rw [show ((B.length : Int) + 15).toNat = (B ++ C).length by simp [c]; omega, List.take_left, Int.toNat_natCast, List.drop_left]
  have hcrc : Ev (fun k => spec_Crc15.f k (strOfNums B)) (crcS B) := by
    have h2 := specCrc15_ev (strOfNums B) (by rw [strOfNums_size]; omega)
    have : crcV (strOfNums B) = crcS B := by
      unfold crcV
      rw [if_pos ⟨by rw [strOfNums_size]; omega, isBits_str hB⟩, bytes_str B hB.range, crcS_crcL hB]
    rw [this] at h2
    exact h2
  refine Ev.step (f := fun k => (spec_Crc15.f k (strOfNums B)).bind fun t285 => (spec_l1val.f k (strOfNums C)).bind fun t287 => some (t285 == t287)) (fun k => ?_) (Ev.bind hcrc (Ev.bind (val_ev C hC (by omega)) (Ev.now _)))
  simp only [spec_l1crcOk.j0]
  rw [if_neg (by decide), if_pos (by omega), if_pos (by omega), w15, t1]
  congr 1
  funext t285
  rw [if_pos (by omega), if_pos (by omega), t2]
theorem look_ev {p : List Int} {c : Int × Int × Int × Bool × Int × Bool × Int × List Int} {m : Int} (h : Ph p c m) (hp : Bits p) (s : WS) (hs : core s = c) (hm : s.sum = m) (b : Int) (hb : b = 48 ∨ b = 49) : Ev (fun k => spec_l1look.f k p b) (codeL s (b - 48)) := by
  have hf := field_ev h hp
  have hfs : s.field = c.1 := by rw [← hs]; rfl
  rw [← hfs] at hf
  unfold spec_l1look.f codeL
  refine Ev.bind hf ?_
  by_cases c1 : s.field = 1
  · refine ev_pos c1 ?_
    rw [if_pos c1]
    rcases hb with rfl | rfl
    · exact ev_neg (by decide) (Ev.now _)
    · exact ev_pos rfl (Ev.now _)
  refine ev_neg c1 ?_
  rw [if_neg c1]
  by_cases c11 : s.field = 11
  · refine ev_pos c11 ?_
    rw [if_pos c11]
    rcases hb with rfl | rfl
    · exact ev_pos rfl (Ev.now _)
    · exact ev_neg (by decide) (Ev.now _)
  refine ev_neg c11 ?_
  rw [if_neg c11]
  by_cases c13 : s.field = 13
  · refine ev_pos c13 ?_
    rw [if_pos c13]
    rcases hb with rfl | rfl
    · exact ev_pos rfl (Ev.now _)
    · refine ev_neg (by decide) ?_
      have hk : Ev (fun k => spec_l1crcOk.f k p) (crcOkW s) := by
        cases h with
        | del H D X C T e r i h d x cc t =>
          have hC := core_is hs hm
          have := crcOk_full h d x cc (by omega) hp
          have e1 : crcOkW s = (crcS (H ++ D ++ X) == V C) := by unfold crcOkW; rw [hC.m, hC.g, c13]; rfl
          rw [e1]; exact this
        | _ => exfalso; first | (have := (core_is hs hm).f; omega) | omega
      refine Ev.bind hk ?_
      cases hw : crcOkW s with
      | true => exact ev_pos rfl (Ev.now _)
      | false => exact ev_neg (by decide) (Ev.now _)
  refine ev_neg c13 ?_
  rw [if_neg c13]
  by_cases c14 : s.field = 14
  · refine ev_pos c14 ?_
    rw [if_pos c14]
    cases h with
    | eof H D X C T e r i h d x cc t3 t =>
      have hC := core_is hs hm
      have hD : Bits D := bits_len hp D (fun x hx => by simp [hx])
      have hl := hd_len h
      have hH : H.length = 15 ∨ H.length = 35 := by rw [hl]; split <;> omega
      have hr := dataB_range (r := r) (V_range hD).1
      have hlay := lay_full (R := X ++ C ++ T) h d hD (by simp; omega)
      rw [← List.append_assoc, ← List.append_assoc] at hlay
      have hlen : ((H ++ D ++ X ++ C ++ T).length : Int) = (H.length : Int) + 4 + 8 * dataB r (V D) + 15 + T.length := by simp [d, cc]; omega
      have hleft := hC.l
      refine Ev.bind hlay ?_
      simp only []
      have ew : wrap64 (wrap64 (((H ++ D ++ X ++ C ++ T).length : Int) - ((H.length : Int) + 4 + 8 * dataB r (V D))) - 18) = (T.length : Int) - 3 := by unfold wrap64; omega
      rw [ew]
      by_cases c6 : (T.length : Int) - 3 < 6
      · refine ev_pos c6 ?_
        rcases hb with rfl | rfl
        · refine Ev.step (f := fun _ => some 4) (fun k => ?_) ?_
          · simp only [spec_l1look.j0]; rw [if_pos (by decide)]
          · rw [if_pos ⟨by omega, by decide⟩]; exact Ev.now _
        · rw [if_neg (by omega)]
          by_cases c5 : (T.length : Int) - 3 = 5
          · refine Ev.step (f := fun _ => some 1) (fun k => ?_) ?_
            · simp only [spec_l1look.j0]; rw [if_neg (by decide), if_pos c5]
            · rw [if_pos (by omega)]; exact Ev.now _
          · refine Ev.step (f := fun k => spec_l1look.j1 k ((T.length : Int) - 3) false) (fun k => ?_) (Ev.step (f := fun _ => some 0) (fun k => ?_) ?_)
            · simp only [spec_l1look.j0]; rw [if_neg (by decide), if_neg c5, if_neg (by omega)]
            · simp only [spec_l1look.j1]; rw [if_neg (by decide), if_neg (by omega)]
            · rw [if_neg (by omega), if_neg (by omega), if_neg (by omega)]; exact Ev.now _
      · refine ev_neg c6 ?_
        have c7 : (T.length : Int) - 3 = 6 := by omega
        refine Ev.step (f := fun k => spec_l1look.j1 k ((T.length : Int) - 3) (b == 48)) (fun k => ?_) ?_
        · simp only [spec_l1look.j0]; rw [if_neg (by decide), if_neg (by omega), if_pos c7]
        · rcases hb with rfl | rfl
          · refine Ev.step (f := fun _ => some 6) (fun k => ?_) ?_
            · simp only [spec_l1look.j1]; rw [if_pos (by decide)]
            · rw [if_neg (by omega), if_neg (by omega), if_pos ⟨by omega, by decide⟩]; exact Ev.now _
          · refine Ev.step (f := fun _ => some 2) (fun k => ?_) ?_
            · simp only [spec_l1look.j1]; rw [if_neg (by decide), if_pos c7]
            · rw [if_neg (by omega), if_neg (by omega), if_neg (by omega), if_pos (by omega)]; exact Ev.now _
    | del H D X C T e r i h d x cc t => exfalso; have := (core_is hs hm).f; omega
    | _ => exfalso; first | (have := (core_is hs hm).f; omega) | omega
  · refine ev_neg c14 ?_
    rw [if_neg c14]
    exact Ev.now _
end Go.Proofs.Ytdoclpgciadjaaa.P

namespace Go.Proofs.Ytdoclpgciadjaaa.P
open Go Go.RowKit Go.Proofs.YtdoclpgciadjaaaW.PrintWords
set_option linter.unusedVariables false
structure At (all : List Int) (i : Nat) (s : WS) (p : List Int) : Prop where
  code : s.code = 0 ∨ s.code = 1
  ph : Ph p (core s) s.sum
  bits : Bits p
  r0 : 0 ≤ s.run
  r1 : s.run ≤ 5
  len : p.length ≤ i
  trail : s.field ≤ 11 → ∃ (run : Nat) (last : Int), Trail all i run last ∧ s.run = run ∧ (0 < i → s.level = last)
theorem At.ok {all : List Int} {i : Nat} {s : WS} {p : List Int} (h : At all i s p) : WOk s := ph_ok h.ph h.bits s rfl h.r0 h.r1
def zeroW : WS := ⟨0, 0, 0, 0, 0, 0, 0, false, 0, false, 0, []⟩
def startW : WS := ⟨0, 1, 1, 0, 0, 0, 0, false, 0, false, 0, []⟩
theorem At.start (all : List Int) : At all 0 startW [] := ⟨.inl rfl, Ph.sof, (fun x hx => by cases hx), by decide, by decide, by simp, fun _ => ⟨0, 0, Trail.zero _ _, rfl, fun h => by omega⟩⟩
theorem plainW_run (s : WS) (b : Int) : (plainW s b).run = s.run ∧ (plainW s b).level = s.level := by
  have e1 : (sumW s b).run = s.run ∧ (sumW s b).level = s.level := by unfold sumW; split <;> exact ⟨rfl, rfl⟩
  have e2 : (takeW (sumW s b) b).run = (sumW s b).run ∧ (takeW (sumW s b) b).level = (sumW s b).level := by
    generalize sumW s b = t
    have e3 : (endW t b).run = t.run ∧ (endW t b).level = t.level := by unfold endW; (repeat' split) <;> exact ⟨rfl, rfl⟩
    constructor
    · unfold takeW
      simp only [apply_ite WS.run, e3.1, ite_self]
    · unfold takeW
      simp only [apply_ite WS.level, e3.2, ite_self]
  unfold plainW
  rw [nextW_eq]
  exact ⟨e2.1.trans e1.1, e2.2.trans e1.2⟩
inductive Step (all : List Int) (i : Nat) (s : WS) (p : List Int) (c : Int) : Prop
  | stop (hd : dueW s = true) (hl : c = s.level) (hc : (hearW s c).code = 3)
  | skip (hd : dueW s = true) (hl : c ≠ s.level) (hc : (hearW s c).code = 0) (ha : At all (i + 1) (hearW s c) p)
  | take (hd : dueW s = false) (hc : (hearW s c).code = codeL s (c - 48)) (ha : (hearW s c).code = 0 ∨ (hearW s c).code = 1 → At all (i + 1) (hearW s c) (p ++ [c]))
theorem codeL_same {s t : WS} (b : Int) (h : core t = core s) (hm : t.sum = s.sum) : codeL t b = codeL s b := by
  have C := core_is (s := t) (f := s.field) (l := s.left) (g := s.got) (e := s.ext) (i := s.id) (r := s.rtr) (d := s.dlc) (x := s.data) h hm
  unfold codeL crcOkW
  rw [C.f, C.l, C.g, C.m]
theorem at_step {all : List Int} {i : Nat} {s : WS} {p : List Int} (h : At all i s p) (hi : i < all.length) (hb : Bits all) : Step all i s p (rd all (i : Int)) := by
  have hc : rd all (i : Int) = 48 ∨ rd all (i : Int) = 49 := hb _ (by have := rd_get all i hi; exact List.mem_of_getElem? this)
  generalize hcc : rd all (i : Int) = c at hc ⊢
  have hr0 := h.r0
  have hr1 := h.r1
  cases hd : dueW s with
  | true =>
    have hf : s.field ≤ 11 := by
      unfold dueW at hd
      simp only [Bool.and_eq_true, decide_eq_true_eq] at hd
      exact hd.2
    have hd0 : dueW { s with code := 0 } = true := hd
    by_cases hl : c = s.level
    · refine .stop hd hl ?_
      unfold hearW
      simp only []
      rw [if_pos hd0, if_pos hl]
    · have e : hearW s c = { s with code := 0, run := 1, level := c } := by
        unfold hearW
        simp only []
        rw [if_pos hd0, if_neg hl]
      refine .skip hd hl (by rw [e]) ?_
      rw [e]
      refine ⟨.inl rfl, h.ph, h.bits, (show (0 : Int) ≤ 1 by decide), (show (1 : Int) ≤ 5 by decide), Nat.le_succ_of_le h.len, fun _ => ?_⟩
      obtain ⟨run, last, ht, hrun, hlev⟩ := h.trail hf
      have hi0 : 0 < i := by
        rcases Nat.eq_zero_or_pos i with h0 | h0
        · exfalso
          have := ht.run_le
          unfold dueW at hd
          simp only [Bool.and_eq_true, beq_iff_eq] at hd
          omega
        · exact h0
      have hn := ht.next hi
      rw [hcc, if_neg (by rw [← hlev hi0]; exact hl)] at hn
      exact ⟨1, c, hn, rfl, fun _ => rfl⟩
  | false =>
    have hd0 : ¬ dueW { s with code := 0 } = true := by
      have : dueW { s with code := 0 } = dueW s := rfl
      rw [this, hd]; decide
    -- the state ahead of the plain bit
    obtain ⟨s1, e, hcore, hsum, hc0, hrun1, hlow⟩ : ∃ s1 : WS, hearW s c = plainW s1 (c - 48) ∧ core s1 = core s ∧ s1.sum = s.sum ∧ s1.code = 0 ∧ (0 ≤ s1.run ∧ s1.run ≤ 5) ∧ (s.field ≤ 10 → ∃ (run : Nat), Trail all (i + 1) run c ∧ s1.run = run ∧ s1.level = c) := by
      by_cases hf : s.field ≤ 10
      · obtain ⟨run, last, ht, hrun, hlev⟩ := h.trail (by omega)
        have hr4 := run_le4 hd hf hr1
        have hn := ht.next hi
        rw [hcc] at hn
        by_cases hm : 0 < s.run ∧ s.level = c
        · have hi0 : 0 < i := by have := ht.run_le; omega
          refine ⟨{ s with code := 0, run := s.run + 1 }, ?_, rfl, rfl, rfl, ⟨by simp only []; omega, by simp only []; omega⟩, fun _ => ⟨run + 1, ?_, by simp only []; omega, hm.2⟩⟩
          · unfold hearW
            simp only []
            rw [if_neg hd0, if_pos hf, if_pos hm]
          · rw [if_pos (by rw [← hlev hi0]; exact hm.2.symm)] at hn
            exact hn
        · refine ⟨{ s with code := 0, run := 1, level := c }, ?_, rfl, rfl, rfl, ⟨(show (0 : Int) ≤ 1 by decide), (show (1 : Int) ≤ 5 by decide)⟩, fun _ => ⟨1, ?_, rfl, rfl⟩⟩
          · unfold hearW
            simp only []
            rw [if_neg hd0, if_pos hf, if_neg hm]
          · by_cases hz : run = 0
            · subst hz
              have : (if c = last then 0 + 1 else 1) = 1 := by split <;> rfl
              rw [this] at hn
              exact hn
            · have hi0 : 0 < i := by have := ht.run_le; omega
              rw [if_neg (fun e => hm ⟨by omega, by rw [hlev hi0]; exact e.symm⟩)] at hn
              exact hn
      · refine ⟨{ s with code := 0, run := 0 }, ?_, rfl, rfl, rfl, ⟨(show (0 : Int) ≤ 0 by decide), (show (0 : Int) ≤ 5 by decide)⟩, fun h2 => absurd h2 hf⟩
        unfold hearW
        simp only []
        rw [if_neg hd0, if_neg hf]
    have hcode : (hearW s c).code = codeL s (c - 48) := by rw [e, code_plain s1 _ hc0, codeL_same _ hcore hsum]
    refine .take hd hcode (fun hrunning => ?_)
    have hfs : s1.field = s.field := by have := congrArg (fun x => x.1) hcore; exact this
    have hls : s1.left = s.left := by have := congrArg (fun x => x.2.1) hcore; exact this
    have hend : ¬ (s1.field = 14 ∧ s1.left = 1) := by
      rintro ⟨h1, h2⟩
      rw [hcode] at hrunning
      unfold codeL at hrunning
      rw [if_neg (by omega), if_neg (by omega), if_neg (by omega), if_pos (by omega), if_neg (by omega), if_neg (by omega)] at hrunning
      by_cases hz : c - 48 = 0
      · rw [if_pos ⟨by omega, hz⟩] at hrunning; omega
      · rw [if_neg (fun h => hz h.2), if_pos (by omega)] at hrunning; omega
    obtain ⟨c', m', hP, hc', hm'⟩ := ph_step h.ph s1 hcore hsum c hc h.bits hend
    have hpr := plainW_run s1 (c - 48)
    rw [e] at hrunning ⊢
    refine ⟨hrunning, by rw [hc', hm']; exact hP, h.bits.append (fun x hx => by rw [List.mem_singleton] at hx; rw [hx]; exact hc), by rw [hpr.1]; exact hrun1.1, by rw [hpr.1]; exact hrun1.2, by rw [List.length_append, List.length_singleton]; have := h.len; omega, fun hf11 => ?_⟩
    have hf10 : s.field ≤ 10 := by
      rcases (show 10 < s.field ∨ s.field ≤ 10 by omega) with hlt | hge
      · exfalso
        have hok := h.ok
        have f1 := hok.f1
        have hle : s1.field + 1 ≤ (plainW s1 (c - 48)).field ∨ s1.field = 14 := by
          by_cases h14 : s1.field = 14
          · exact .inr h14
          · left
            -- one bit a field from the delimiter of the sum on
            have hleft : s1.left = 1 := by
              have hph := h.ph
              generalize hg : core s = cc at hph
              generalize s.sum = mm at hph
              cases hph with
              | del H D X C T e r i h d x c t => rw [hls]; exact (core_is hg rfl).l
              | eof H D X C T e r i h d x c t3 t => have := (core_is hg rfl).f; omega
              | _ => exfalso; have := (core_is hg rfl).f; omega
            have C1 : CoreIs s1 s1.field 1 s1.got s1.ext s1.id s1.rtr s1.dlc s1.data s1.sum := ⟨rfl, hleft, rfl, rfl, rfl, rfl, rfl, rfl, rfl⟩
            have T := tk_late C1 (by omega) (c - 48)
            have hpl : plainW s1 (c - 48) = nextW (tk s1 (c - 48)) := rfl
            have N := next_is T (next_over T.l T.f (.inl (by omega)) (.inl (by omega)) rfl)
            rw [hpl, N.f]
            omega
        rcases hle with h1 | h1
        · omega
        · -- field 14 stays
          have hl2 : s1.left ≠ 1 := fun h2 => hend ⟨h1, h2⟩
          have C1 : CoreIs s1 14 s1.left s1.got s1.ext s1.id s1.rtr s1.dlc s1.data s1.sum := ⟨h1, rfl, rfl, rfl, rfl, rfl, rfl, rfl, rfl⟩
          have T := tk_late C1 (by omega) (c - 48)
          have l0 := hok.l0
          have N := next_is T (next_more T.l (by omega))
          have hpl : plainW s1 (c - 48) = nextW (tk s1 (c - 48)) := rfl
          have : (plainW s1 (c - 48)).field = 14 := by rw [hpl, N.f, T.f]
          omega
      · exact hge
    obtain ⟨run, ht, hr, hl⟩ := hlow hf10
    exact ⟨run, c, ht, hpr.1.trans hr, fun _ => hpr.2.trans hl⟩
def walkG : List Int → WS → WS
  | [], s => s
  | c :: l, s => if (hearW s c).code = 0 ∨ (hearW s c).code = 1 then walkG l (hearW s c) else if l = [] then hearW s c else { hearW s c with code := 7 }
def walkV (s : ByteArray) : WS := if s.size ≤ 4000 ∧ isBits s = true then walkG (bytesOf s) startW else { zeroW with code := 8 }
theorem step_next {all : List Int} {i : Nat} {s : WS} {p : List Int} {c : Int} (h : Step all i s p c) (hc : (hearW s c).code = 0 ∨ (hearW s c).code = 1) : ∃ q, At all (i + 1) (hearW s c) q := by
  cases h with
  | stop hd hl hc2 => omega
  | skip hd hl hc2 ha => exact ⟨p, ha⟩
  | take hd hc2 ha => exact ⟨_, ha hc⟩
theorem bits_of_isBits {s : ByteArray} (h : isBits s = true) : Bits (bytesOf s) := by
  intro x hx
  unfold bytesOf at hx
  obtain ⟨b, hb, rfl⟩ := List.mem_map.1 hx
  unfold isBits at h
  rw [List.all_eq_true] at h
  rcases isBit_cases (h b hb) with rfl | rfl
  · exact .inl rfl
  · exact .inr rfl
theorem rd_bytesOf (s : ByteArray) (i : Nat) (h : i < s.size) : rd (bytesOf s) (i : Int) = ((s[i]'h).toNat : Int) := by
  unfold rd bytesOf
  rw [Int.toNat_natCast, List.getD_eq_getElem?_getD, List.getElem?_map, Array.getElem?_toList, Array.getElem?_eq_getElem (show i < s.data.size from h)]
  rfl
end Go.Proofs.Ytdoclpgciadjaaa.P

namespace Go.Proofs.Ytdoclpgciadjaaa.P
open Go.RowKit Go.Proofs.YtdoclpgciadjaaaW.PrintWords Go.Proofs.YtdoclpgciadjaaaW.PrintLast Go.Proofs.YtdoclpgciadjaaaW.PrintMore
set_option linter.unusedVariables false
set_option linter.unusedSimpArgs false
structure WoIn (w wr : World) (p m : Nat) (s : WS) : Prop where
  at_ : ∃ v, WIn w wr p (fun k => m ≤ k) s v
  res : wr.heap[w.heap.size]? = some (objW zeroW (.slice none 0 0))
  size : m ≤ wr.heap.size
theorem walkG_step (l : List Int) (c : Int) (s : WS) (h : (hearW s c).code = 0 ∨ (hearW s c).code = 1) : walkG (c :: l) s = walkG l (hearW s c) := by rw [walkG, if_pos h]
theorem WoIn.next {w wr : World} {p m it n : Nat} {a0 : ByteArray} {s : WS} (h : WoIn w wr p m s) (hit : wr.heap[it]? = some (.stringIter a0 n)) (him : it < m) (hpm : p < m) (hwp : w.heap.size < p) (hwi : w.heap.size ≤ it) (ok : WOk s) (c : Int) (hc : c = 48 ∨ c = 49) :
    Calls Try.prog 134 #[.pointer (some ⟨p, 0, none⟩), .int .i32 c] (wr.iterAt it a0 (n + 1)) fun e w' => e = .returned (.tuple #[]) ∧ w'.heap[it]? = some (.stringIter a0 (n + 1)) ∧ WoIn w w' p m (hearW s c) := by
  obtain ⟨v, hi⟩ := h.at_
  have hip : p ≠ it := fun e => by have h1 := hi.obj; rw [e, hit] at h1; injection h1 with h1; cases h1
  have hir : w.heap.size ≠ it := fun e => by have h1 := h.res; rw [e, hit] at h1; injection h1 with h1; cases h1
  have hil : w.heap.size ≤ it := by omega
  have hsz := Lib.iterAt_size wr it a0 (n + 1)
  have hms := h.size
  have hiw : WIn w (wr.iterAt it a0 (n + 1)) p (fun k => m ≤ k) s v := ⟨(Lib.iterAt_other wr it p a0 (n + 1) hip).trans hi.obj, R_iterAt hi.row hit (n + 1), Lib.below_iterAt hi.below hil a0 (n + 1), fun k hk => by (try simp only []); omega⟩
  refine (impl_walk_hear.calls p v s c hc (fun k => m ≤ k) w (wr.iterAt it a0 (n + 1)) hiw (Nat.le_of_lt hwp) (by omega) ok).mono ?_
  rintro e w' ⟨rfl, ⟨v', ha⟩, ht⟩
  refine ⟨rfl, ?_, ⟨v', ha.obj, ha.row, ?_, fun k hk => ?_⟩, ?_, ?_⟩
  · exact (ht.block (by rw [hsz]; exact (Array.getElem?_eq_some_iff.1 hit).1) (by omega)).trans (Lib.iterAt_heap wr it a0 n (n + 1) hit)
  · exact ht.below hiw.below hiw.below.size (fun k hk => by rcases hk with rfl | hk <;> omega)
  · have := ht.size; (try simp only []); omega
  · exact (ht.block (by rw [hsz]; exact (Array.getElem?_eq_some_iff.1 h.res).1) (by omega)).trans ((Lib.iterAt_other wr it _ a0 (n + 1) hir).trans h.res)
  · have := ht.size; omega
set_option maxHeartbeats 4000000 in
theorem impl_walkOver.yes (a0 : ByteArray) (w : World) (hsz : a0.size ≤ 4000) (hB0 : isBits a0 = true) :
    Calls Try.prog 81 #[.string a0] w fun e w' => ∃ v, e = .returned (.agg (cellsW (walkG (bytesOf a0) startW) v)) ∧ Kd.R (Kd.int .u8) 5 w' w.heap.size (fun _ => True) v (walkG (bytesOf a0) startW).data ∧ Below w.heap.size w w' := by
  have hbt : Hid (impl_bitText.f a0 4000 = some true) := by
    refine Lib.hid ?_
    unfold impl_bitText.f
    rw [hB0, decide_eq_true (by omega)]; rfl
  have HBT := Lib.hid hB0
  clear hB0
  go_enter Try.func81, Try.ntmps81
  go_wp2_with (fail)
  go_step3
  go_wp2_with (go_at_call 77; refine (impl_bitText.calls _ _ true _ hbt.out).mono ?_; rintro e w1 ⟨rfl, hb1⟩; have HRES : Hid (w1.heap[w.heap.size]? = some (objW zeroW (.slice none 0 0))) := Lib.hid (blk_below (blk_alloc (blk_new w _) _) hb1); have HOBJ : Hid (w1.heap[w.heap.size + 1]? = some (objW zeroW (.slice none 0 0))) := Lib.hid (by have h := blk_below (blk_new (w.alloc (objW zeroW (.slice none 0 0))) _) hb1; rw [World.size_alloc] at h; exact h); have HB1 : Hid (Below w.heap.size w w1) := Lib.hid (Below.trans (((Below.refl _ _).alloc (Nat.le_refl _) _).alloc (by simp) _) (hb1.mono (by simp; omega))); clear hb1)
  (refine (impl_walk_enter.calls (w.heap.size + 1) _ zeroW 1 _ HOBJ.out (by decide)).mono ?_; intro e w2 hE; have HE := Lib.hid hE; obtain rfl := hE.ret; clear hE)
  have HRL : Hid (w.heap.size + 1 < w1.heap.size) := Lib.hid (Array.getElem?_eq_some_iff.1 HOBJ.out).1
  have HRL2 : Hid (w.heap.size + 1 < w2.heap.size) := Lib.hid (Array.getElem?_eq_some_iff.1 HE.out.obj).1
  have HRES2 : Hid (w2.heap[w.heap.size]? = some (objW zeroW (.slice none 0 0))) := Lib.hid ((HE.out.tch.block (by have := HRL.out; omega) (by omega)).trans HRES.out)
  have HB2 : Hid (Below w.heap.size w w2) := Lib.hid (HE.out.tch.below HB1.out HB1.out.size (fun k hk => by omega))
  go_wp2_with (fail)
  go_step3
  go_wp2_with (fail)
  go_loopw [] (fun wr => ∃ (pos : Nat) (s : WS) (pl : List Int), pos ≤ a0.size ∧ wr.heap[w2.heap.size]? = some (.stringIter a0 pos) ∧ Aside0 (WoIn w wr (w.heap.size + 1) (w2.heap.size + 1) s) ∧ Aside0 (At (bytesOf a0) pos s pl) ∧ Aside0 (walkG ((bytesOf a0).drop pos) s = walkG (bytesOf a0) startW)) (fun wr => a0.size - wr.iterPos w2.heap.size)
  case atStart => exact ⟨0, startW, [], Nat.zero_le _, iter_new w2 a0 0, ⟨⟨_, ⟨blk_alloc HE.out.obj _, Kd.R_nil _ _ _ _ _, HB2.out.alloc HB2.out.size _, fun k hk => by simpa [World.iter] using hk⟩⟩, blk_alloc HRES2.out _, by simp [World.iter]⟩, ⟨At.start _⟩, ⟨by rw [List.drop_zero]⟩⟩
  case round =>
    obtain ⟨pos, s, pl, hle, hit, HWO, HAT, HWG⟩ := hrel
    by_cases hp : pos < a0.size
    · have hbit := isBits_at HBT.out hp
      have HBits : Hid (Bits (bytesOf a0)) := Lib.hid (bits_of_isBits HBT.out)
      rcases isBit_cases hbit with e | e
      · have hnx := fun ty => next_bit_at (P := Try.prog) _ _ a0 pos ty hit hp (b := 48) (by rw [e]; rfl) (by omega)
        have HRD : Hid (rd (bytesOf a0) (pos : Int) = 48) := Lib.hid (by rw [rd_bytesOf a0 pos hp, e]; rfl)
        have HN := Lib.hid (HWO.out.next hit (by omega) (by have := HRL2.out; omega) (by omega) (by have := HRL2.out; omega) HAT.out.ok 48 (by omega))
        have HST := Lib.hid (HRD.out ▸ at_step HAT.out (by rw [bytesOf_length]; exact hp) HBits.out)
        have HDR : Hid ((bytesOf a0).drop pos = 48 :: (bytesOf a0).drop (pos + 1)) := Lib.hid (drop_cons a0 pos hp (b := 48) (by rw [e]; rfl))
        have HIT := Lib.hid hit
        clear e hbit hit
        by_cases k0 : (hearW s 48).code = 0
        · have HNX := Lib.hid (step_next HST.out (.inl k0))
          have HKK := Lib.hid k0
          clear k0
          go_wp2_with (go_at_call 134; refine HN.out.mono ?_; rintro e w3 ⟨rfl, hi3, hk3⟩; have HI3 := Lib.hid hi3; have HK3 := Aside0.mk hk3; clear hi3 hk3; obtain ⟨v3, hv3⟩ := HK3.out.at_; have hcode := cW0 hv3.obj; have hcodef := fW hv3.obj 0; clear hv3; rw [HKK.out] at hcode)
          go_roundw
          case rel => obtain ⟨pl2, ha2⟩ := HNX.out; exact ⟨pos + 1, hearW s 48, pl2, hp, HI3.out, HK3, ⟨ha2⟩, ⟨by rw [← HWG.out, HDR.out, walkG_step _ _ _ (.inl HKK.out)]⟩⟩
          case measure => rw [iterPos_at HI3.out, iterPos_at HIT.out]; omega
        by_cases k1 : (hearW s 48).code = 1
        · have HNX := Lib.hid (step_next HST.out (.inr k1))
          have HKK := Lib.hid k1
          clear k1
          go_wp2_with (go_at_call 134; refine HN.out.mono ?_; rintro e w3 ⟨rfl, hi3, hk3⟩; have HI3 := Lib.hid hi3; have HK3 := Aside0.mk hk3; clear hi3 hk3; obtain ⟨v3, hv3⟩ := HK3.out.at_; have hcode := cW0 hv3.obj; have hcodef := fW hv3.obj 0; clear hv3; rw [HKK.out] at hcode)
          go_roundw
          case rel => obtain ⟨pl2, ha2⟩ := HNX.out; exact ⟨pos + 1, hearW s 48, pl2, hp, HI3.out, HK3, ⟨ha2⟩, ⟨by rw [← HWG.out, HDR.out, walkG_step _ _ _ (.inr HKK.out)]⟩⟩
          case measure => rw [iterPos_at HI3.out, iterPos_at HIT.out]; omega
        have HK0 := Lib.hid k0
        have HK1 := Lib.hid k1
        have b0 : ((hearW s 48).code == 0) = false := by simp [k0]
        have b1 : ((hearW s 48).code == 1) = false := by simp [k1]
        clear k0 k1
        by_cases hm : pos + 1 < a0.size
        · have bm : decide ((pos : Int) < (a0.size : Int) - 1) = true := decide_eq_true (by omega)
          have HM := Lib.hid hm
          clear hm
          go_wp2_with (fail)
          (refine HN.out.mono ?_; rintro e w3 ⟨rfl, hi3, hk3⟩; have HK3 := Lib.hid hk3; clear hi3 hk3)
          obtain ⟨vz, hvz⟩ := HK3.out.at_
          obtain ⟨Az, cz, ez⟩ := Kd.R_slice hvz.row
          subst ez
          have HVZ := Lib.hid hvz
          have hzo := hvz.obj
          clear hvz
          have hz0 := cW0 hzo
          have hz1 := cW1 hzo
          have hz2 := cW2 hzo
          have hz3 := cW3 hzo
          have hz4 := cW4 hzo
          have hz5 := cW5 hzo
          have hz6 := cW6 hzo
          have hz7 := cW7 hzo
          have hz8 := cW8 hzo
          have hz9 := cW9 hzo
          have hz10 := cW10 hzo
          have hz11 := cW11 hzo
          have hzf0 := fW hzo 0
          have HZO := Lib.hid hzo
          clear hzo
          have hzr := HK3.out.res
          have hfr0 := fW hzr 0
          have hfr1 := fW hzr 1
          have hfr2 := fW hzr 2
          have hfr3 := fW hzr 3
          have hfr4 := fW hzr 4
          have hfr5 := fW hzr 5
          have hfr6 := fW hzr 6
          have hfr7 := fW hzr 7
          have hfr8 := fW hzr 8
          have hfr9 := fW hzr 9
          have hfr10 := fW hzr 10
          have hfr11 := fW hzr 11
          have hcr0 := cW0 hzr
          have hcr1 := cW1 hzr
          have hcr2 := cW2 hzr
          have hcr3 := cW3 hzr
          have hcr4 := cW4 hzr
          have hcr5 := cW5 hzr
          have hcr6 := cW6 hzr
          have hcr7 := cW7 hzr
          have hcr8 := cW8 hzr
          have hcr9 := cW9 hzr
          have hcr10 := cW10 hzr
          have hcr11 := cW11 hzr
          have HZR := Lib.hid hzr
          clear hzr
          go_wp2_with (fail)
          have HV7 := Lib.hid (HVZ.out.put (u := .int .i64 7) (j := 0) (s' := { hearW s 48 with code := 7 }) (by have := HRL2.out; omega) (by omega) (setW0 HZO.out 7) rfl)
          have HR7 := Lib.hid (((Tch.refl1 w3 (w.heap.size + 1)).one 0 (.int .i64 7)).block (Array.getElem?_eq_some_iff.1 HZR.out).1 (by omega) |>.trans HZR.out)
          rw [Exit.noGoto_ret]
          have HEQ : Hid (({ hearW s 48 with code := 7 } : WS) = walkG (bytesOf a0) startW) := Lib.hid (by rw [← HWG.out, HDR.out, walkG, if_neg (by rintro (h | h); exact HK0.out h; exact HK1.out h), if_neg (by intro h; have := congrArg List.length h; rw [List.length_drop, bytesOf_length] at this; have := HM.out; simp at *; omega)])
          have HT := Lib.hid (put12_tch (w3.setCell ⟨w.heap.size + 1, 0, none⟩ (.int .i64 7)) w.heap.size (({ hearW s 48 with code := 7 } : WS)) (.slice Az (({ hearW s 48 with code := 7 } : WS)).data.length cz))
          refine bodyPost_ret (results_cell_row rfl _ _ w.heap.size 116 (cellsW (({ hearW s 48 with code := 7 } : WS)) (.slice Az (({ hearW s 48 with code := 7 } : WS)).data.length cz)) (0, 0) _ rfl (put12_obj HR7.out (({ hearW s 48 with code := 7 } : WS)) (.slice Az (({ hearW s 48 with code := 7 } : WS)).data.length cz)) Try.underlying116 rfl (by kernel_rfl)) rfl ?_
          rw [← HEQ.out]
          exact ⟨_, rfl, Kd.R_mono (HT.out.R HV7.out.row (by have := HRL2.out; intro k hk; omega)) (fun _ _ => trivial), HT.out.below HV7.out.below (Below.size HV7.out.below) (fun k hk => Nat.le_of_eq hk.symm)⟩
        · have bm : decide ((pos : Int) < (a0.size : Int) - 1) = false := decide_eq_false (by omega)
          have HM := Lib.hid hm
          clear hm
          go_wp2_with (fail)
          (refine HN.out.mono ?_; rintro e w3 ⟨rfl, hi3, hk3⟩; have HK3 := Lib.hid hk3; clear hi3 hk3)
          obtain ⟨vz, hvz⟩ := HK3.out.at_
          obtain ⟨Az, cz, ez⟩ := Kd.R_slice hvz.row
          subst ez
          have HVZ := Lib.hid hvz
          have hzo := hvz.obj
          clear hvz
          have hz0 := cW0 hzo
          have hz1 := cW1 hzo
          have hz2 := cW2 hzo
          have hz3 := cW3 hzo
          have hz4 := cW4 hzo
          have hz5 := cW5 hzo
          have hz6 := cW6 hzo
          have hz7 := cW7 hzo
          have hz8 := cW8 hzo
          have hz9 := cW9 hzo
          have hz10 := cW10 hzo
          have hz11 := cW11 hzo
          have hzf0 := fW hzo 0
          have HZO := Lib.hid hzo
          clear hzo
          have hzr := HK3.out.res
          have hfr0 := fW hzr 0
          have hfr1 := fW hzr 1
          have hfr2 := fW hzr 2
          have hfr3 := fW hzr 3
          have hfr4 := fW hzr 4
          have hfr5 := fW hzr 5
          have hfr6 := fW hzr 6
          have hfr7 := fW hzr 7
          have hfr8 := fW hzr 8
          have hfr9 := fW hzr 9
          have hfr10 := fW hzr 10
          have hfr11 := fW hzr 11
          have hcr0 := cW0 hzr
          have hcr1 := cW1 hzr
          have hcr2 := cW2 hzr
          have hcr3 := cW3 hzr
          have hcr4 := cW4 hzr
          have hcr5 := cW5 hzr
          have hcr6 := cW6 hzr
          have hcr7 := cW7 hzr
          have hcr8 := cW8 hzr
          have hcr9 := cW9 hzr
          have hcr10 := cW10 hzr
          have hcr11 := cW11 hzr
          have HZR := Lib.hid hzr
          clear hzr
          go_wp2_with (fail)
          rw [Exit.noGoto_ret]
          have HEQ : Hid (hearW s 48 = walkG (bytesOf a0) startW) := Lib.hid (by rw [← HWG.out, HDR.out, walkG, if_neg (by rintro (h | h); exact HK0.out h; exact HK1.out h), if_pos (List.drop_eq_nil_of_le (by rw [bytesOf_length]; have := HM.out; omega))])
          have HT := Lib.hid (put12_tch (w3) w.heap.size (hearW s 48) (.slice Az (hearW s 48).data.length cz))
          refine bodyPost_ret (results_cell_row rfl _ _ w.heap.size 116 (cellsW (hearW s 48) (.slice Az (hearW s 48).data.length cz)) (0, 0) _ rfl (put12_obj HZR.out (hearW s 48) (.slice Az (hearW s 48).data.length cz)) Try.underlying116 rfl (by kernel_rfl)) rfl ?_
          rw [← HEQ.out]
          exact ⟨_, rfl, Kd.R_mono (HT.out.R HVZ.out.row (by have := HRL2.out; intro k hk; omega)) (fun _ _ => trivial), HT.out.below HVZ.out.below (Below.size HVZ.out.below) (fun k hk => Nat.le_of_eq hk.symm)⟩
      · have hnx := fun ty => next_bit_at (P := Try.prog) _ _ a0 pos ty hit hp (b := 49) (by rw [e]; rfl) (by omega)
        have HRD : Hid (rd (bytesOf a0) (pos : Int) = 49) := Lib.hid (by rw [rd_bytesOf a0 pos hp, e]; rfl)
        have HN := Lib.hid (HWO.out.next hit (by omega) (by have := HRL2.out; omega) (by omega) (by have := HRL2.out; omega) HAT.out.ok 49 (by omega))
        have HST := Lib.hid (HRD.out ▸ at_step HAT.out (by rw [bytesOf_length]; exact hp) HBits.out)
        have HDR : Hid ((bytesOf a0).drop pos = 49 :: (bytesOf a0).drop (pos + 1)) := Lib.hid (drop_cons a0 pos hp (b := 49) (by rw [e]; rfl))
        have HIT := Lib.hid hit
        clear e hbit hit
        by_cases k0 : (hearW s 49).code = 0
        · have HNX := Lib.hid (step_next HST.out (.inl k0))
          have HKK := Lib.hid k0
          clear k0
          go_wp2_with (go_at_call 134; refine HN.out.mono ?_; rintro e w3 ⟨rfl, hi3, hk3⟩; have HI3 := Lib.hid hi3; have HK3 := Aside0.mk hk3; clear hi3 hk3; obtain ⟨v3, hv3⟩ := HK3.out.at_; have hcode := cW0 hv3.obj; have hcodef := fW hv3.obj 0; clear hv3; rw [HKK.out] at hcode)
          go_roundw
          case rel => obtain ⟨pl2, ha2⟩ := HNX.out; exact ⟨pos + 1, hearW s 49, pl2, hp, HI3.out, HK3, ⟨ha2⟩, ⟨by rw [← HWG.out, HDR.out, walkG_step _ _ _ (.inl HKK.out)]⟩⟩
          case measure => rw [iterPos_at HI3.out, iterPos_at HIT.out]; omega
        by_cases k1 : (hearW s 49).code = 1
        · have HNX := Lib.hid (step_next HST.out (.inr k1))
          have HKK := Lib.hid k1
          clear k1
          go_wp2_with (go_at_call 134; refine HN.out.mono ?_; rintro e w3 ⟨rfl, hi3, hk3⟩; have HI3 := Lib.hid hi3; have HK3 := Aside0.mk hk3; clear hi3 hk3; obtain ⟨v3, hv3⟩ := HK3.out.at_; have hcode := cW0 hv3.obj; have hcodef := fW hv3.obj 0; clear hv3; rw [HKK.out] at hcode)
          go_roundw
          case rel => obtain ⟨pl2, ha2⟩ := HNX.out; exact ⟨pos + 1, hearW s 49, pl2, hp, HI3.out, HK3, ⟨ha2⟩, ⟨by rw [← HWG.out, HDR.out, walkG_step _ _ _ (.inr HKK.out)]⟩⟩
          case measure => rw [iterPos_at HI3.out, iterPos_at HIT.out]; omega
        have HK0 := Lib.hid k0
        have HK1 := Lib.hid k1
        have b0 : ((hearW s 49).code == 0) = false := by simp [k0]
        have b1 : ((hearW s 49).code == 1) = false := by simp [k1]
        clear k0 k1
        by_cases hm : pos + 1 < a0.size
        · have bm : decide ((pos : Int) < (a0.size : Int) - 1) = true := decide_eq_true (by omega)
          have HM := Lib.hid hm
          clear hm
          go_wp2_with (fail)
          (refine HN.out.mono ?_; rintro e w3 ⟨rfl, hi3, hk3⟩; have HK3 := Lib.hid hk3; clear hi3 hk3)
          obtain ⟨vz, hvz⟩ := HK3.out.at_
          obtain ⟨Az, cz, ez⟩ := Kd.R_slice hvz.row
          subst ez
          have HVZ := Lib.hid hvz
          have hzo := hvz.obj
          clear hvz
          have hz0 := cW0 hzo
          have hz1 := cW1 hzo
          have hz2 := cW2 hzo
          have hz3 := cW3 hzo
          have hz4 := cW4 hzo
          have hz5 := cW5 hzo
          have hz6 := cW6 hzo
          have hz7 := cW7 hzo
          have hz8 := cW8 hzo
          have hz9 := cW9 hzo
          have hz10 := cW10 hzo
          have hz11 := cW11 hzo
          have hzf0 := fW hzo 0
          have HZO := Lib.hid hzo
          clear hzo
          have hzr := HK3.out.res
          have hfr0 := fW hzr 0
          have hfr1 := fW hzr 1
          have hfr2 := fW hzr 2
          have hfr3 := fW hzr 3
          have hfr4 := fW hzr 4
          have hfr5 := fW hzr 5
          have hfr6 := fW hzr 6
          have hfr7 := fW hzr 7
          have hfr8 := fW hzr 8
          have hfr9 := fW hzr 9
          have hfr10 := fW hzr 10
          have hfr11 := fW hzr 11
          have hcr0 := cW0 hzr
          have hcr1 := cW1 hzr
          have hcr2 := cW2 hzr
          have hcr3 := cW3 hzr
          have hcr4 := cW4 hzr
          have hcr5 := cW5 hzr
          have hcr6 := cW6 hzr
          have hcr7 := cW7 hzr
          have hcr8 := cW8 hzr
          have hcr9 := cW9 hzr
          have hcr10 := cW10 hzr
          have hcr11 := cW11 hzr
          have HZR := Lib.hid hzr
          clear hzr
          go_wp2_with (fail)
          have HV7 := Lib.hid (HVZ.out.put (u := .int .i64 7) (j := 0) (s' := { hearW s 49 with code := 7 }) (by have := HRL2.out; omega) (by omega) (setW0 HZO.out 7) rfl)
          have HR7 := Lib.hid (((Tch.refl1 w3 (w.heap.size + 1)).one 0 (.int .i64 7)).block (Array.getElem?_eq_some_iff.1 HZR.out).1 (by omega) |>.trans HZR.out)
          rw [Exit.noGoto_ret]
          have HEQ : Hid (({ hearW s 49 with code := 7 } : WS) = walkG (bytesOf a0) startW) := Lib.hid (by rw [← HWG.out, HDR.out, walkG, if_neg (by rintro (h | h); exact HK0.out h; exact HK1.out h), if_neg (by intro h; have := congrArg List.length h; rw [List.length_drop, bytesOf_length] at this; have := HM.out; simp at *; omega)])
          have HT := Lib.hid (put12_tch (w3.setCell ⟨w.heap.size + 1, 0, none⟩ (.int .i64 7)) w.heap.size (({ hearW s 49 with code := 7 } : WS)) (.slice Az (({ hearW s 49 with code := 7 } : WS)).data.length cz))
          refine bodyPost_ret (results_cell_row rfl _ _ w.heap.size 116 (cellsW (({ hearW s 49 with code := 7 } : WS)) (.slice Az (({ hearW s 49 with code := 7 } : WS)).data.length cz)) (0, 0) _ rfl (put12_obj HR7.out (({ hearW s 49 with code := 7 } : WS)) (.slice Az (({ hearW s 49 with code := 7 } : WS)).data.length cz)) Try.underlying116 rfl (by kernel_rfl)) rfl ?_
          rw [← HEQ.out]
          exact ⟨_, rfl, Kd.R_mono (HT.out.R HV7.out.row (by have := HRL2.out; intro k hk; omega)) (fun _ _ => trivial), HT.out.below HV7.out.below (Below.size HV7.out.below) (fun k hk => Nat.le_of_eq hk.symm)⟩
        · have bm : decide ((pos : Int) < (a0.size : Int) - 1) = false := decide_eq_false (by omega)
          have HM := Lib.hid hm
          clear hm
          go_wp2_with (fail)
          (refine HN.out.mono ?_; rintro e w3 ⟨rfl, hi3, hk3⟩; have HK3 := Lib.hid hk3; clear hi3 hk3)
          obtain ⟨vz, hvz⟩ := HK3.out.at_
          obtain ⟨Az, cz, ez⟩ := Kd.R_slice hvz.row
          subst ez
          have HVZ := Lib.hid hvz
          have hzo := hvz.obj
          clear hvz
          have hz0 := cW0 hzo
          have hz1 := cW1 hzo
          have hz2 := cW2 hzo
          have hz3 := cW3 hzo
          have hz4 := cW4 hzo
          have hz5 := cW5 hzo
          have hz6 := cW6 hzo
          have hz7 := cW7 hzo
          have hz8 := cW8 hzo
          have hz9 := cW9 hzo
          have hz10 := cW10 hzo
          have hz11 := cW11 hzo
          have hzf0 := fW hzo 0
          have HZO := Lib.hid hzo
          clear hzo
          have hzr := HK3.out.res
          have hfr0 := fW hzr 0
          have hfr1 := fW hzr 1
          have hfr2 := fW hzr 2
          have hfr3 := fW hzr 3
          have hfr4 := fW hzr 4
          have hfr5 := fW hzr 5
          have hfr6 := fW hzr 6
          have hfr7 := fW hzr 7
          have hfr8 := fW hzr 8
          have hfr9 := fW hzr 9
          have hfr10 := fW hzr 10
          have hfr11 := fW hzr 11
          have hcr0 := cW0 hzr
          have hcr1 := cW1 hzr
          have hcr2 := cW2 hzr
          have hcr3 := cW3 hzr
          have hcr4 := cW4 hzr
          have hcr5 := cW5 hzr
          have hcr6 := cW6 hzr
          have hcr7 := cW7 hzr
          have hcr8 := cW8 hzr
          have hcr9 := cW9 hzr
          have hcr10 := cW10 hzr
          have hcr11 := cW11 hzr
          have HZR := Lib.hid hzr
          clear hzr
          go_wp2_with (fail)
          rw [Exit.noGoto_ret]
          have HEQ : Hid (hearW s 49 = walkG (bytesOf a0) startW) := Lib.hid (by rw [← HWG.out, HDR.out, walkG, if_neg (by rintro (h | h); exact HK0.out h; exact HK1.out h), if_pos (List.drop_eq_nil_of_le (by rw [bytesOf_length]; have := HM.out; omega))])
          have HT := Lib.hid (put12_tch (w3) w.heap.size (hearW s 49) (.slice Az (hearW s 49).data.length cz))
          refine bodyPost_ret (results_cell_row rfl _ _ w.heap.size 116 (cellsW (hearW s 49) (.slice Az (hearW s 49).data.length cz)) (0, 0) _ rfl (put12_obj HZR.out (hearW s 49) (.slice Az (hearW s 49).data.length cz)) Try.underlying116 rfl (by kernel_rfl)) rfl ?_
          rw [← HEQ.out]
          exact ⟨_, rfl, Kd.R_mono (HT.out.R HVZ.out.row (by have := HRL2.out; intro k hk; omega)) (fun _ _ => trivial), HT.out.below HVZ.out.below (Below.size HVZ.out.below) (fun k hk => Nat.le_of_eq hk.symm)⟩
    · have hnx := fun ty => Lib.run_next_end_at (P := Try.prog) _ _ a0 pos ty hit hp
      obtain rfl : pos = a0.size := by omega
      obtain ⟨vz, hvz⟩ := HWO.out.at_
      obtain ⟨Az, cz, ez⟩ := Kd.R_slice hvz.row
      subst ez
      have HVZ := Lib.hid hvz
      have hzo := hvz.obj
      clear hvz
      have hz0 := cW0 hzo
      have hz1 := cW1 hzo
      have hz2 := cW2 hzo
      have hz3 := cW3 hzo
      have hz4 := cW4 hzo
      have hz5 := cW5 hzo
      have hz6 := cW6 hzo
      have hz7 := cW7 hzo
      have hz8 := cW8 hzo
      have hz9 := cW9 hzo
      have hz10 := cW10 hzo
      have hz11 := cW11 hzo
      have hzf0 := fW hzo 0
      have HZO := Lib.hid hzo
      clear hzo
      have hzr := HWO.out.res
      have hfr0 := fW hzr 0
      have hfr1 := fW hzr 1
      have hfr2 := fW hzr 2
      have hfr3 := fW hzr 3
      have hfr4 := fW hzr 4
      have hfr5 := fW hzr 5
      have hfr6 := fW hzr 6
      have hfr7 := fW hzr 7
      have hfr8 := fW hzr 8
      have hfr9 := fW hzr 9
      have hfr10 := fW hzr 10
      have hfr11 := fW hzr 11
      have hcr0 := cW0 hzr
      have hcr1 := cW1 hzr
      have hcr2 := cW2 hzr
      have hcr3 := cW3 hzr
      have hcr4 := cW4 hzr
      have hcr5 := cW5 hzr
      have hcr6 := cW6 hzr
      have hcr7 := cW7 hzr
      have hcr8 := cW8 hzr
      have hcr9 := cW9 hzr
      have hcr10 := cW10 hzr
      have hcr11 := cW11 hzr
      have HZR := Lib.hid hzr
      clear hzr
      go_wp2_with (fail)
      rw [Exit.noGoto_ret]
      have HEQ : Hid (s = walkG (bytesOf a0) startW) := Lib.hid (by rw [← HWG.out, List.drop_eq_nil_of_le (by rw [bytesOf_length]; exact Nat.le_refl _)]; rfl)
      have HT := Lib.hid (put12_tch (wr) w.heap.size (s) (.slice Az (s).data.length cz))
      refine bodyPost_ret (results_cell_row rfl _ _ w.heap.size 116 (cellsW (s) (.slice Az (s).data.length cz)) (0, 0) _ rfl (put12_obj HZR.out (s) (.slice Az (s).data.length cz)) Try.underlying116 rfl (by kernel_rfl)) rfl ?_
      rw [← HEQ.out]
      exact ⟨_, rfl, Kd.R_mono (HT.out.R HVZ.out.row (by have := HRL2.out; intro k hk; omega)) (fun _ _ => trivial), HT.out.below HVZ.out.below (Below.size HVZ.out.below) (fun k hk => Nat.le_of_eq hk.symm)⟩
theorem impl_walkOver.no (a0 : ByteArray) (w : World) (c : ¬ (a0.size ≤ 4000 ∧ isBits a0 = true)) :
    Calls Try.prog 81 #[.string a0] w fun e w' => ∃ v, e = .returned (.agg (cellsW { zeroW with code := 8 } v)) ∧ Kd.R (Kd.int .u8) 5 w' w.heap.size (fun _ => True) v [] ∧ Below w.heap.size w w' := by
  have hbt : Hid (impl_bitText.f a0 4000 = some false) := by
    refine Lib.hid ?_
    unfold impl_bitText.f
    congr 1
    rw [Bool.and_eq_false_iff]
    by_cases h : isBits a0 = true
    · exact .inl (decide_eq_false fun h2 => c ⟨by omega, h⟩)
    · exact .inr (by simpa using h)
  clear c
  go_enter Try.func81, Try.ntmps81
  go_wp2_with (fail)
  go_step3
  go_wp2_with (fail)
  (refine (impl_bitText.calls _ _ false _ hbt.out).mono ?_; rintro e w1 ⟨rfl, hb1⟩; have HRES : Hid (w1.heap[w.heap.size]? = some (objW zeroW (.slice none 0 0))) := Lib.hid (blk_below (blk_alloc (blk_new w _) _) hb1); have HOBJ : Hid (w1.heap[w.heap.size + 1]? = some (objW zeroW (.slice none 0 0))) := Lib.hid (by have h := blk_below (blk_new (w.alloc (objW zeroW (.slice none 0 0))) _) hb1; rw [World.size_alloc] at h; exact h); have HB1 : Hid (Below w.heap.size w w1) := Lib.hid (Below.trans (((Below.refl _ _).alloc (Nat.le_refl _) _).alloc (by simp) _) (hb1.mono (by simp; omega))); clear hb1)
  have hzo := HOBJ.out

  have hz0 := cW0 hzo
  have hz1 := cW1 hzo
  have hz2 := cW2 hzo
  have hz3 := cW3 hzo
  have hz4 := cW4 hzo
  have hz5 := cW5 hzo
  have hz6 := cW6 hzo
  have hz7 := cW7 hzo
  have hz8 := cW8 hzo
  have hz9 := cW9 hzo
  have hz10 := cW10 hzo
  have hz11 := cW11 hzo
  have hzf0 := fW hzo 0
  clear hzo
  have hzr := HRES.out
  have hfr0 := fW hzr 0
  have hfr1 := fW hzr 1
  have hfr2 := fW hzr 2
  have hfr3 := fW hzr 3
  have hfr4 := fW hzr 4
  have hfr5 := fW hzr 5
  have hfr6 := fW hzr 6
  have hfr7 := fW hzr 7
  have hfr8 := fW hzr 8
  have hfr9 := fW hzr 9
  have hfr10 := fW hzr 10
  have hfr11 := fW hzr 11
  have hcr0 := cW0 hzr
  have hcr1 := cW1 hzr
  have hcr2 := cW2 hzr
  have hcr3 := cW3 hzr
  have hcr4 := cW4 hzr
  have hcr5 := cW5 hzr
  have hcr6 := cW6 hzr
  have hcr7 := cW7 hzr
  have hcr8 := cW8 hzr
  have hcr9 := cW9 hzr
  have hcr10 := cW10 hzr
  have hcr11 := cW11 hzr
  clear hzr
  simp only [zeroW] at hz0 hz1 hz2 hz3 hz4 hz5 hz6 hz7 hz8 hz9 hz10 hcr0 hcr1 hcr2 hcr3 hcr4 hcr5 hcr6 hcr7 hcr8 hcr9 hcr10
  go_wp2_with (fail)
  rw [Exit.noGoto_ret]
  have HR7 := Lib.hid (((Tch.refl1 w1 (w.heap.size + 1)).one 0 (.int .i64 8)).block (Array.getElem?_eq_some_iff.1 HRES.out).1 (by omega) |>.trans HRES.out)
  have HB7 := Lib.hid (((Tch.refl1 w1 (w.heap.size + 1)).one 0 (.int .i64 8)).below HB1.out HB1.out.size (fun k hk => by omega))
  have HT := Lib.hid (put12_tch (w1.setCell ⟨w.heap.size + 1, 0, none⟩ (.int .i64 8)) w.heap.size ({ zeroW with code := 8 }) (.slice none 0 0))
  refine bodyPost_ret (results_cell_row rfl _ _ w.heap.size 116 (cellsW ({ zeroW with code := 8 }) (.slice none 0 0)) (0, 0) _ rfl (put12_obj HR7.out ({ zeroW with code := 8 }) (.slice none 0 0)) Try.underlying116 rfl (by kernel_rfl)) rfl ?_
  exact ⟨_, rfl, Kd.R_nil _ _ _ _ _, HT.out.below HB7.out (Below.size HB7.out) (fun k hk => Nat.le_of_eq hk.symm)⟩
theorem impl_walkOver.whole (a0 : ByteArray) (w : World) :
    Calls Try.prog 81 #[.string a0] w fun e w' => ∃ v, e = .returned (.agg (cellsW (walkV a0) v)) ∧ Kd.R (Kd.int .u8) 5 w' w.heap.size (fun _ => True) v (walkV a0).data ∧ Below w.heap.size w w' := by
  unfold walkV
  by_cases c : a0.size ≤ 4000 ∧ isBits a0 = true
  · rw [if_pos c]; exact impl_walkOver.yes a0 w c.1 c.2
  · rw [if_neg c]; exact impl_walkOver.no a0 w c
def impl_walkOver.f (a0 : ByteArray) : Option (Int × Int × Int × Int × Int × Int × Int × Bool × Int × Bool × Int × List Int) := some ((walkV a0).code, (walkV a0).field, (walkV a0).left, (walkV a0).run, (walkV a0).level, (walkV a0).sum, (walkV a0).got, (walkV a0).ext, (walkV a0).id, (walkV a0).rtr, (walkV a0).dlc, (walkV a0).data)
theorem impl_walkOver.calls (a0 : ByteArray) (r1 r2 r3 r4 r5 r6 r7 : Int) (r8 : Bool) (r9 : Int) (r10 : Bool) (r11 : Int) (r12 : List Int) (w : World) (h : impl_walkOver.f a0 = some (r1, r2, r3, r4, r5, r6, r7, r8, r9, r10, r11, r12)) :
    Calls Try.prog 81 #[.string a0] w fun e w' => ∃ v12_ : Value, e = .returned (.agg #[.int .i64 r1, .int .i64 r2, .int .i64 r3, .int .i64 r4, .int .i32 r5, .int .i64 r6, .int .i64 r7, .bool r8, .int .u32 r9, .bool r10, .int .i64 r11, v12_]) ∧ Kd.R (Kd.int .u8) 5 w' w.heap.size (fun _ => True) v12_ r12 ∧ Below w.heap.size w w' := by
  unfold impl_walkOver.f at h
  simp only [Option.some.injEq, Prod.mk.injEq] at h
  obtain ⟨rfl, rfl, rfl, rfl, rfl, rfl, rfl, rfl, rfl, rfl, rfl, rfl⟩ := h
  exact impl_walkOver.whole a0 w
end Go.Proofs.Ytdoclpgciadjaaa.P
