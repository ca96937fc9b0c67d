import Derived.Test.YtogedkkdhonmlaaQFnStuffed0
import Derived.Test.YtogedkkdhonmlaaQFnStuffed1
import Derived.Test.YtogedkkdhonmlaaQFnStuffed2
import Derived.Laws.BitsLemmas
import Derived.Laws.BitsAllLaws
import Derived.Lib.Strings
import Derived.Lib.SmallJoins
import Derived.ChangeKeysEq

namespace Go.Proofs.Ytogedkkdhonmlaa.P
open Go.RowKit Go.Proofs.YtogedkkdhonmlaaW.PrintWords Go.Proofs.YtogedkkdhonmlaaW.PrintLast Go.Proofs.YtogedkkdhonmlaaW.PrintMore
attribute [local go_sem] max2_int min2_int max_two min_two max_three min_three max_four min_four
set_option linter.unusedVariables false
set_option linter.unusedSimpArgs false

/-! ### laws_FnStuffed: function 12 -/
mutual
def laws_FnStuffed.j0 : Nat → ByteArray → ByteArray → Bool → Option (Bool)
  | 0, _, _, _ => none
  | k + 1, x3, x4, x28 => if x28 = true then ((spec_Crc15.f k x3).bind fun t183 => (some (t183 == (-1)))) else (laws_FnStuffed.l0 k x3 x4 0 0)
def laws_FnStuffed.l0 : Nat → ByteArray → ByteArray → Int → Int → Option (Bool)
  | 0, _, _, _, _ => none
  | k + 1, x3, x4, x5, x6 => if x6 < (x4.size : Int) then (if x6 > 0 then (if 0 ≤ x6 then (if 0 ≤ (wrap64 (x6 - 1)) then (if (wrap64 (x6 - 1)) < (x4.size : Int) then (laws_FnStuffed.j2 k x3 x4 x5 x6 ((bt x4 x6) == (bt x4 (wrap64 (x6 - 1))))) else (none)) else (none)) else (none)) else (laws_FnStuffed.j2 k x3 x4 x5 x6 false)) else ((impl_Destuff.f x4).bind fun bt184 => (if bt184.1.toList = x3.toList then (some (bt184.2 == (-1))) else (some false)))
def laws_FnStuffed.j2 : Nat → ByteArray → ByteArray → Int → Int → Bool → Option (Bool)
  | 0, _, _, _, _, _ => none
  | k + 1, x3, x4, x5, x6, x49 => if x49 = true then (if (wrap64 (x5 + 1)) > 5 then (some false) else (laws_FnStuffed.l0 k x3 x4 (wrap64 (x5 + 1)) (wrap64 (x6 + 1)))) else (if 1 > 5 then (some false) else (laws_FnStuffed.l0 k x3 x4 1 (wrap64 (x6 + 1))))
end
def laws_FnStuffed.f (k : Nat) (l0 : List Int) : Option (Bool) := if (l0.length : Int) > 1048576 then (some true) else ((spec_DrawStuff.f k l0).bind fun t180 => ((impl_Stuff.f t180).bind fun t181 => ((spec_Stuff.f k t180).bind fun t182 => (if (t181.size : Int) = (t182.size : Int) then (if (t180.size : Int) > 0 then (laws_FnStuffed.j0 k t180 t181 (t181.toList == ([] : List UInt8))) else (laws_FnStuffed.j0 k t180 t181 false)) else (some false)))))
theorem laws_FnStuffed.mono_l : ∀ k, (∀ y0 y1 y2, LeO (laws_FnStuffed.j0 k y0 y1 y2) (laws_FnStuffed.j0 (k + 1) y0 y1 y2)) ∧ (∀ y0 y1 y2 y3, LeO (laws_FnStuffed.l0 k y0 y1 y2 y3) (laws_FnStuffed.l0 (k + 1) y0 y1 y2 y3)) ∧ (∀ y0 y1 y2 y3 y4, LeO (laws_FnStuffed.j2 k y0 y1 y2 y3 y4) (laws_FnStuffed.j2 (k + 1) y0 y1 y2 y3 y4))
  | 0 => ⟨fun _ _ _ r h => by simp [laws_FnStuffed.j0] at h, fun _ _ _ _ r h => by simp [laws_FnStuffed.l0] at h, fun _ _ _ _ _ r h => by simp [laws_FnStuffed.j2] at h⟩
  | k + 1 => by
    obtain ⟨ih0, ih1, ih2⟩ := laws_FnStuffed.mono_l k
    refine ⟨?_, ?_, ?_⟩
    · intro y0 y1 y2
      unfold laws_FnStuffed.j0
      repeat' first
      | (with_reducible exact ih0 _ _ _)
      | (with_reducible exact ih1 _ _ _ _)
      | (with_reducible exact ih2 _ _ _ _ _)
      | (with_reducible exact spec_Crc15.mono _ _)
      | (with_reducible exact spec_DrawStuff.mono _ _)
      | (with_reducible exact spec_Stuff.mono _ _)
      | (with_reducible exact LeO.refl _)
      | (with_reducible exact LeO.none _)
      | (with_reducible refine LeO.ite ?_ ?_)
      | (with_reducible refine LeO.bind ?_ (fun _ => ?_))
      | exact ih0 _ _ _
      | exact ih1 _ _ _ _
      | exact ih2 _ _ _ _ _
      | exact spec_Crc15.mono _ _
      | exact spec_DrawStuff.mono _ _
      | exact spec_Stuff.mono _ _
      | exact LeO.none _
      | refine LeO.ite ?_ ?_
      | refine LeO.bind ?_ (fun _ => ?_)
    · intro y0 y1 y2 y3
      unfold laws_FnStuffed.l0
      repeat' first
      | (with_reducible exact ih0 _ _ _)
      | (with_reducible exact ih1 _ _ _ _)
      | (with_reducible exact ih2 _ _ _ _ _)
      | (with_reducible exact spec_Crc15.mono _ _)
      | (with_reducible exact spec_DrawStuff.mono _ _)
      | (with_reducible exact spec_Stuff.mono _ _)
      | (with_reducible exact LeO.refl _)
      | (with_reducible exact LeO.none _)
      | (with_reducible refine LeO.ite ?_ ?_)
      | (with_reducible refine LeO.bind ?_ (fun _ => ?_))
      | exact ih0 _ _ _
      | exact ih1 _ _ _ _
      | exact ih2 _ _ _ _ _
      | exact spec_Crc15.mono _ _
      | exact spec_DrawStuff.mono _ _
      | exact spec_Stuff.mono _ _
      | exact LeO.none _
      | refine LeO.ite ?_ ?_
      | refine LeO.bind ?_ (fun _ => ?_)
    · intro y0 y1 y2 y3 y4
      unfold laws_FnStuffed.j2
      repeat' first
      | (with_reducible exact ih0 _ _ _)
      | (with_reducible exact ih1 _ _ _ _)
      | (with_reducible exact ih2 _ _ _ _ _)
      | (with_reducible exact spec_Crc15.mono _ _)
      | (with_reducible exact spec_DrawStuff.mono _ _)
      | (with_reducible exact spec_Stuff.mono _ _)
      | (with_reducible exact LeO.refl _)
      | (with_reducible exact LeO.none _)
      | (with_reducible refine LeO.ite ?_ ?_)
      | (with_reducible refine LeO.bind ?_ (fun _ => ?_))
      | exact ih0 _ _ _
      | exact ih1 _ _ _ _
      | exact ih2 _ _ _ _ _
      | exact spec_Crc15.mono _ _
      | exact spec_DrawStuff.mono _ _
      | exact spec_Stuff.mono _ _
      | exact LeO.none _
      | refine LeO.ite ?_ ?_
      | refine LeO.bind ?_ (fun _ => ?_)
theorem laws_FnStuffed.mono : ∀ a0 k, LeO (laws_FnStuffed.f k a0) (laws_FnStuffed.f (k + 1) a0) := by
  intro a0 k
  obtain ⟨ih0, ih1, ih2⟩ := laws_FnStuffed.mono_l k
  unfold laws_FnStuffed.f
  repeat' first
      | (with_reducible exact ih0 _ _ _)
      | (with_reducible exact ih1 _ _ _ _)
      | (with_reducible exact ih2 _ _ _ _ _)
      | (with_reducible exact spec_Crc15.mono _ _)
      | (with_reducible exact spec_DrawStuff.mono _ _)
      | (with_reducible exact spec_Stuff.mono _ _)
      | (with_reducible exact LeO.refl _)
      | (with_reducible exact LeO.none _)
      | (with_reducible refine LeO.ite ?_ ?_)
      | (with_reducible refine LeO.bind ?_ (fun _ => ?_))
      | exact ih0 _ _ _
      | exact ih1 _ _ _ _
      | exact ih2 _ _ _ _ _
      | exact spec_Crc15.mono _ _
      | exact spec_DrawStuff.mono _ _
      | exact spec_Stuff.mono _ _
      | exact LeO.none _
      | refine LeO.ite ?_ ?_
      | refine LeO.bind ?_ (fun _ => ?_)
set_option maxHeartbeats 8000000 in
set_option maxRecDepth 100000 in
theorem laws_FnStuffed.calls (k : Nat) (A0 : Option Addr) (c0 : Nat) (l0 : List Int) (r : Bool) (w : World) (hr0 : Kd.C (Kd.int .u8) w A0 l0.length l0) (hc0 : l0.length ≤ c0) (h : laws_FnStuffed.f k l0 = some r) :
    Calls Try.prog 12 #[.slice A0 l0.length c0] w fun e w' => e = .returned (.bool r) ∧ Below w.heap.size w w' := by
  have HR0 := Aside0.mk hr0
  have HC0 := Aside0.mk hc0
  clear hr0 hc0
  have HB := Aside0.mk (Below.refl w.heap.size w)
  have H : (if (l0.length : Int) > 1048576 then (some true) else ((spec_DrawStuff.f k l0).bind fun t180 => ((impl_Stuff.f t180).bind fun t181 => ((spec_Stuff.f k t180).bind fun t182 => (if (t181.size : Int) = (t182.size : Int) then (if (t180.size : Int) > 0 then (laws_FnStuffed.j0 k t180 t181 (t181.toList == ([] : List UInt8))) else (laws_FnStuffed.j0 k t180 t181 false)) else (some false)))))) = some r := h
  clear h
  by_cases c2 : (l0.length : Int) > 1048576
  · rw [if_pos c2] at H
    have c2b0 : decide (1048576 < (l0.length : Int)) = true := decide_eq_true c2
    have c2b1 : decide (1048576 < l0.length) = true := decide_eq_true (by omega)
    clear c2
    obtain rfl := Option.some.inj H
    go_enter Try.func12, Try.ntmps12
    go_wp2
    repeat (go_quiet (fail); try go_wp2)
    go_ret
    exact ⟨by first | rfl | (simp [errW_none, errW_some] <;> rfl) | (simp [*, errW_none, errW_some] <;> rfl), by repeat (first | (with_reducible first | exact HB.out | apply below_alloc | apply pw_below_drewN | apply below_drew1) | exact HB.out)⟩
  · rw [if_neg c2] at H
    have c2b0 : decide (1048576 < (l0.length : Int)) = false := decide_eq_false c2
    have c2b1 : decide (1048576 < l0.length) = false := decide_eq_false (by omega)
    clear c2
    replace H := Option.bind_eq_some_iff.mp H
    obtain ⟨t180, A30, H⟩ := H
    replace H : ((impl_Stuff.f t180).bind fun t181 => ((spec_Stuff.f k t180).bind fun t182 => (if (t181.size : Int) = (t182.size : Int) then (if (t180.size : Int) > 0 then (laws_FnStuffed.j0 k t180 t181 (t181.toList == ([] : List UInt8))) else (laws_FnStuffed.j0 k t180 t181 false)) else (some false)))) = some r := H
    have A3 := Aside0.mk A30
    clear A30
    replace H := Option.bind_eq_some_iff.mp H
    obtain ⟨t181, A40, H⟩ := H
    replace H : ((spec_Stuff.f k t180).bind fun t182 => (if (t181.size : Int) = (t182.size : Int) then (if (t180.size : Int) > 0 then (laws_FnStuffed.j0 k t180 t181 (t181.toList == ([] : List UInt8))) else (laws_FnStuffed.j0 k t180 t181 false)) else (some false))) = some r := H
    have A4 := Aside0.mk A40
    clear A40
    replace H := Option.bind_eq_some_iff.mp H
    obtain ⟨t182, A50, H⟩ := H
    replace H : (if (t181.size : Int) = (t182.size : Int) then (if (t180.size : Int) > 0 then (laws_FnStuffed.j0 k t180 t181 (t181.toList == ([] : List UInt8))) else (laws_FnStuffed.j0 k t180 t181 false)) else (some false)) = some r := H
    have A5 := Aside0.mk A50
    clear A50
    by_cases c6 : (t181.size : Int) = (t182.size : Int)
    · rw [if_pos c6] at H
      have c6b0 : ((t181.size : Int) == (t182.size : Int)) = true := beq_iff_eq.mpr c6
      have c6b1 : ((t181.size : Int) != (t182.size : Int)) = false := bne_eq_false_iff_eq.mpr c6
      have c6b2 : (t181.size == t182.size) = true := by first | simpa using c6 | (simp at c6 ⊢; omega)
      clear c6
      have HC7 := Aside0.mk H
      clear H
      go_enter Try.func12, Try.ntmps12
      go_upto_region 7 with (first | (go_at_call 41; (with_reducible refine (spec_DrawStuff.calls k _ _ l0 t180 _ ?side1 ?side2 A3.out).mono ?_); (case side1 => repeat (first | exact HR0.out | (with_reducible refine Kd.C_alloc ?_ _) | (with_reducible refine Kd.C_drewN ?_ _) | (with_reducible refine Kd.C_drew ?_))); (case side2 => exact HC0.out); rintro e w8 ⟨rfl, hb⟩; have n0_ := Aside0.mk (below_step (by repeat (first | (with_reducible first | exact HB.out | apply below_alloc | apply pw_below_drewN | apply below_drew1) | exact HB.out)) hb); clear HB; have HB := n0_; clear n0_; (try clear hb); (try clear hb2); (try clear hk); (try clear hi)) | (go_at_call 20; (with_reducible refine (impl_Stuff.calls t180 t181 _ A4.out).mono ?_); rintro e w9 ⟨rfl, hb⟩; have n0_ := Aside0.mk (below_step (by repeat (first | (with_reducible first | exact HB.out | apply below_alloc | apply pw_below_drewN | apply below_drew1) | exact HB.out)) hb); clear HB; have HB := n0_; clear n0_; (try clear hb); (try clear hb2); (try clear hk); (try clear hi)) | (go_at_call 19; (with_reducible refine (spec_Stuff.calls k t180 t182 _ A5.out).mono ?_); rintro e w10 ⟨rfl, hb⟩; have n0_ := Aside0.mk (below_step (by repeat (first | (with_reducible first | exact HB.out | apply below_alloc | apply pw_below_drewN | apply below_drew1) | exact HB.out)) hb); clear HB; have HB := n0_; clear n0_; (try clear hb); (try clear hb2); (try clear hk); (try clear hi)))
      repeat (go_quiet (first | (go_at_call 41; (with_reducible refine (spec_DrawStuff.calls k _ _ l0 t180 _ ?side1 ?side2 A3.out).mono ?_); (case side1 => repeat (first | exact HR0.out | (with_reducible refine Kd.C_alloc ?_ _) | (with_reducible refine Kd.C_drewN ?_ _) | (with_reducible refine Kd.C_drew ?_))); (case side2 => exact HC0.out); rintro e w8 ⟨rfl, hb⟩; have n0_ := Aside0.mk (below_step (by repeat (first | (with_reducible first | exact HB.out | apply below_alloc | apply pw_below_drewN | apply below_drew1) | exact HB.out)) hb); clear HB; have HB := n0_; clear n0_; (try clear hb); (try clear hb2); (try clear hk); (try clear hi)) | (go_at_call 20; (with_reducible refine (impl_Stuff.calls t180 t181 _ A4.out).mono ?_); rintro e w9 ⟨rfl, hb⟩; have n0_ := Aside0.mk (below_step (by repeat (first | (with_reducible first | exact HB.out | apply below_alloc | apply pw_below_drewN | apply below_drew1) | exact HB.out)) hb); clear HB; have HB := n0_; clear n0_; (try clear hb); (try clear hb2); (try clear hk); (try clear hi)) | (go_at_call 19; (with_reducible refine (spec_Stuff.calls k t180 t182 _ A5.out).mono ?_); rintro e w10 ⟨rfl, hb⟩; have n0_ := Aside0.mk (below_step (by repeat (first | (with_reducible first | exact HB.out | apply below_alloc | apply pw_below_drewN | apply below_drew1) | exact HB.out)) hb); clear HB; have HB := n0_; clear n0_; (try clear hb); (try clear hb2); (try clear hk); (try clear hi))); go_upto_region 7 with (first | (go_at_call 41; (with_reducible refine (spec_DrawStuff.calls k _ _ l0 t180 _ ?side1 ?side2 A3.out).mono ?_); (case side1 => repeat (first | exact HR0.out | (with_reducible refine Kd.C_alloc ?_ _) | (with_reducible refine Kd.C_drewN ?_ _) | (with_reducible refine Kd.C_drew ?_))); (case side2 => exact HC0.out); rintro e w8 ⟨rfl, hb⟩; have n0_ := Aside0.mk (below_step (by repeat (first | (with_reducible first | exact HB.out | apply below_alloc | apply pw_below_drewN | apply below_drew1) | exact HB.out)) hb); clear HB; have HB := n0_; clear n0_; (try clear hb); (try clear hb2); (try clear hk); (try clear hi)) | (go_at_call 20; (with_reducible refine (impl_Stuff.calls t180 t181 _ A4.out).mono ?_); rintro e w9 ⟨rfl, hb⟩; have n0_ := Aside0.mk (below_step (by repeat (first | (with_reducible first | exact HB.out | apply below_alloc | apply pw_below_drewN | apply below_drew1) | exact HB.out)) hb); clear HB; have HB := n0_; clear n0_; (try clear hb); (try clear hb2); (try clear hk); (try clear hi)) | (go_at_call 19; (with_reducible refine (spec_Stuff.calls k t180 t182 _ A5.out).mono ?_); rintro e w10 ⟨rfl, hb⟩; have n0_ := Aside0.mk (below_step (by repeat (first | (with_reducible first | exact HB.out | apply below_alloc | apply pw_below_drewN | apply below_drew1) | exact HB.out)) hb); clear HB; have HB := n0_; clear n0_; (try clear hb); (try clear hb2); (try clear hk); (try clear hi))))
      (try simp only [Act.put, List.setIfInBounds_toArray, List.set_cons_zero, List.set_cons_succ])
      go_cut [28] (fun v28 wc => ∃ (kq : Nat) (x28_6 : Bool), v28 = .bool x28_6 ∧ Aside0 (laws_FnStuffed.j0 kq t180 t181 x28_6 = some r) ∧ Aside0 (kq ≤ k) ∧ Aside0 (Below w.heap.size w wc))
      case first =>
        have H := HC7.out
        clear HC7
        by_cases c11 : (t180.size : Int) > 0
        · rw [if_pos c11] at H
          have c11b0 : decide (0 < (t180.size : Int)) = true := decide_eq_true c11
          have c11b1 : decide (0 < t180.size) = true := decide_eq_true (by omega)
          clear c11
          (first | rw [c11b0] | (simp only [i64_w, i32_w]; rw [c11b0]) | skip)
          have H' := Aside0.mk H
          clear H
          go_wp2
          repeat (go_quiet (fail); try go_wp2)
          go_meet
          case rel => exact ⟨_, ((t181.toList == ([] : List UInt8))), (by first | rfl | (simp; done) | (simp [*]; done)), H', ⟨by first | omega | exact Nat.le_refl _⟩, ⟨by repeat (first | (with_reducible first | exact HB.out | apply below_alloc | apply pw_below_drewN | apply below_drew1) | exact HB.out)⟩⟩
        · rw [if_neg c11] at H
          have c11b0 : decide (0 < (t180.size : Int)) = false := decide_eq_false c11
          have c11b1 : decide (0 < t180.size) = false := decide_eq_false (by omega)
          clear c11
          (first | rw [c11b0] | (simp only [i64_w, i32_w]; rw [c11b0]) | skip)
          have H' := Aside0.mk H
          clear H
          go_wp2
          repeat (go_quiet (fail); try go_wp2)
          go_meet
          case rel => exact ⟨_, (false), (by first | rfl | (simp; done) | (simp [*]; done)), H', ⟨by first | omega | exact Nat.le_refl _⟩, ⟨by repeat (first | (with_reducible first | exact HB.out | apply below_alloc | apply pw_below_drewN | apply below_drew1) | exact HB.out)⟩⟩
      case rest =>
        clear HC7
        try clear c1
        try clear c2
        try clear c2b0
        try clear c2b1
        try clear p2
        try clear c6
        try clear c6b0
        try clear c6b1
        try clear c6b2
        try clear c11
        try clear c11b0
        try clear c11b1
        obtain ⟨kq, x28_6, rfl, HA, HJ6, HB⟩ := hcut
        cases kq with
        | zero => exact absurd HA.out (by simp [laws_FnStuffed.j0])
        | succ kj6 =>
          have H := HA.out
          clear HA
          simp only [laws_FnStuffed.j0] at H
          by_cases c12 : x28_6 = true
          · subst c12
            have H1 : ((spec_Crc15.f kj6 t180).bind fun t183 => (some (t183 == (-1)))) = some r := by rw [if_pos rfl] at H; exact H
            clear H
            have H := H1
            clear H1
            replace H := Option.bind_eq_some_iff.mp H
            obtain ⟨t183, A130, H⟩ := H
            replace H : (some (t183 == (-1))) = some r := H
            have A13 := Aside0.mk A130
            clear A130
            obtain rfl := Option.some.inj H
            go_wp2_with (first | (go_at_call 15; (with_reducible refine (spec_Crc15.calls kj6 t180 t183 _ A13.out).mono ?_); rintro e w14 ⟨rfl, hb⟩; have n0_ := Aside0.mk (below_step (by repeat (first | (with_reducible first | exact HB.out | apply below_alloc | apply pw_below_drewN | apply below_drew1) | exact HB.out)) hb); clear HB; have HB := n0_; clear n0_; (try clear hb); (try clear hb2); (try clear hk); (try clear hi)))
            repeat (go_quiet (first | (go_at_call 15; (with_reducible refine (spec_Crc15.calls kj6 t180 t183 _ A13.out).mono ?_); rintro e w14 ⟨rfl, hb⟩; have n0_ := Aside0.mk (below_step (by repeat (first | (with_reducible first | exact HB.out | apply below_alloc | apply pw_below_drewN | apply below_drew1) | exact HB.out)) hb); clear HB; have HB := n0_; clear n0_; (try clear hb); (try clear hb2); (try clear hk); (try clear hi))); try go_wp2_with (first | (go_at_call 15; (with_reducible refine (spec_Crc15.calls kj6 t180 t183 _ A13.out).mono ?_); rintro e w14 ⟨rfl, hb⟩; have n0_ := Aside0.mk (below_step (by repeat (first | (with_reducible first | exact HB.out | apply below_alloc | apply pw_below_drewN | apply below_drew1) | exact HB.out)) hb); clear HB; have HB := n0_; clear n0_; (try clear hb); (try clear hb2); (try clear hk); (try clear hi))))
            go_ret
            exact ⟨by first | rfl | (simp [errW_none, errW_some] <;> rfl) | (simp [*, errW_none, errW_some] <;> rfl), by repeat (first | (with_reducible first | exact HB.out | apply below_alloc | apply pw_below_drewN | apply below_drew1) | exact HB.out)⟩
          · replace c12 := Bool.eq_false_iff.mpr c12
            subst c12
            have H1 : (laws_FnStuffed.l0 kj6 t180 t181 0 0) = some r := by rw [if_neg (show ¬ (false = true) by decide)] at H; exact H
            clear H
            have H := H1
            clear H1
            have H' := Aside0.mk H
            clear H
            go_wp2
            repeat (go_quiet (fail); try go_wp2)
            go_loopg [5, 6] kj6 (fun kq v5 v6 w' => ∃ (x5_2 : Int) (x6_2 : Int), v5 = .int .i64 x5_2 ∧ v6 = .int .i64 x6_2 ∧ Aside0 (laws_FnStuffed.l0 kq t180 t181 x5_2 x6_2 = some r) ∧ Aside0 (kq ≤ kj6) ∧ Aside0 (Below w.heap.size w w'))
            case atStart => exact ⟨(0), (0), (by first | rfl | (simp; done) | (simp [*]; done)), (by first | rfl | (simp; done) | (simp [*]; done)), H', ⟨Nat.le_refl _⟩, ⟨by repeat (first | (with_reducible first | exact HB.out | apply below_alloc | apply pw_below_drewN | apply below_drew1) | exact HB.out)⟩⟩
            case round =>
              clear H'
              try clear c1
              try clear c2
              try clear c2b0
              try clear c2b1
              try clear p2
              try clear c6
              try clear c6b0
              try clear c6b1
              try clear c6b2
              try clear c11
              try clear c11b0
              try clear c11b1
              try clear c12
              try clear p2
              obtain ⟨x5_2, x6_2, rfl, rfl, HA, HK2, HB⟩ := hrel
              cases gk with
              | zero => exact absurd HA.out (by simp [laws_FnStuffed.l0])
              | succ k2 =>
                have H := HA.out
                clear HA
                simp only [laws_FnStuffed.l0] at H
                by_cases c15 : x6_2 < (t181.size : Int)
                · rw [if_pos c15] at H
                  have c15b0 : decide (x6_2 < (t181.size : Int)) = true := decide_eq_true c15
                  clear c15
                  have HC16 := Aside0.mk H
                  clear H
                  go_upto_region 13 with (fail)
                  repeat (go_quiet (fail); go_upto_region 13 with (fail))
                  go_cut [49] (fun v49 wc => ∃ (kq : Nat) (x49_15 : Bool), v49 = .bool x49_15 ∧ Aside0 (laws_FnStuffed.j2 kq t180 t181 x5_2 x6_2 x49_15 = some r) ∧ Aside0 (kq ≤ k2) ∧ Aside0 (Below w.heap.size w wc))
                  case first =>
                    have H := HC16.out
                    clear HC16
                    by_cases c17 : x6_2 > 0
                    · rw [if_pos c17] at H
                      have c17b0 : decide (0 < x6_2) = true := decide_eq_true c17
                      clear c17
                      (first | rw [c17b0] | (simp only [i64_w, i32_w]; rw [c17b0]) | skip)
                      by_cases c18 : 0 ≤ x6_2
                      · rw [if_pos c18] at H
                        have c18b0 : decide (0 ≤ x6_2) = true := decide_eq_true c18
                        clear c18
                        obtain ⟨ji20, hji20⟩ : ∃ j_ : Int, (wrap64 (x6_2 - 1)) = j_ := ⟨_, rfl⟩
                        replace H : (if 0 ≤ (ji20) then (if (ji20) < (t181.size : Int) then (laws_FnStuffed.j2 k2 t180 t181 x5_2 x6_2 ((bt t181 x6_2) == (bt t181 (ji20)))) else (none)) else (none)) = some r := by first | (rw [hji20] at H; exact H) | (simp only [hji20] at H ⊢; exact H)
                        have hji20w : (IntKind.i64.wrap (x6_2 - 1)) = ji20 := (i64_w _).trans hji20
                        by_cases c21 : 0 ≤ (ji20)
                        · rw [if_pos c21] at H
                          have c21b0 : decide (0 ≤ (ji20)) = true := decide_eq_true c21
                          clear c21
                          by_cases c22 : (ji20) < (t181.size : Int)
                          · rw [if_pos c22] at H
                            have c22b0 : decide ((ji20) < (t181.size : Int)) = true := decide_eq_true c22
                            clear c22
                            have H' := Aside0.mk H
                            clear H
                            have p19 : 0 ≤ (x6_2 : Int) := of_decide_eq_true (by first | (with_reducible assumption) | assumption)
                            have q19 : x6_2 < (t181.size : Int) := of_decide_eq_true (by first | (with_reducible assumption) | assumption)
                            have hx19 := bt_at t181 x6_2
                            replace p19 := eq_true p19
                            replace q19 := eq_true q19
                            have p23 : 0 ≤ ((ji20) : Int) := of_decide_eq_true (by first | (with_reducible assumption) | assumption)
                            have q23 : (ji20) < (t181.size : Int) := of_decide_eq_true (by first | (with_reducible assumption) | assumption)
                            have hx23 := bt_at t181 (ji20)
                            replace p23 := eq_true p23
                            replace q23 := eq_true q23
                            go_wp2
                            repeat (go_quiet (fail); try go_wp2)
                            go_meet
                            case rel => exact ⟨_, (((bt t181 x6_2) == (bt t181 (ji20)))), (by first | rfl | (simp; done) | (simp only [← hji20] <;> (first | rfl | simp)) | (simp [*]; done)), H', ⟨by have := HJ6.out; have := HK2.out; first | omega | exact Nat.le_refl _⟩, ⟨by repeat (first | (with_reducible first | exact HB.out | apply below_alloc | apply pw_below_drewN | apply below_drew1) | exact HB.out)⟩⟩
                          · rw [if_neg c22] at H
                            exact absurd H (by simp)
                        · rw [if_neg c21] at H
                          exact absurd H (by simp)
                      · rw [if_neg c18] at H
                        exact absurd H (by simp)
                    · rw [if_neg c17] at H
                      have c17b0 : decide (0 < x6_2) = false := decide_eq_false c17
                      clear c17
                      (first | rw [c17b0] | (simp only [i64_w, i32_w]; rw [c17b0]) | skip)
                      have H' := Aside0.mk H
                      clear H
                      go_wp2
                      repeat (go_quiet (fail); try go_wp2)
                      go_meet
                      case rel => exact ⟨_, (false), (by first | rfl | (simp; done) | (simp [*]; done)), H', ⟨by have := HJ6.out; have := HK2.out; first | omega | exact Nat.le_refl _⟩, ⟨by repeat (first | (with_reducible first | exact HB.out | apply below_alloc | apply pw_below_drewN | apply below_drew1) | exact HB.out)⟩⟩
                  case rest =>
                    clear HC16
                    try clear c1
                    try clear p1
                    try clear q1
                    try clear hx1
                    try clear c2
                    try clear c2b0
                    try clear c2b1
                    try clear p2
                    try clear q2
                    try clear hx2
                    try clear c6
                    try clear c6b0
                    try clear c6b1
                    try clear c6b2
                    try clear p6
                    try clear c11
                    try clear c11b0
                    try clear c11b1
                    try clear c12
                    try clear c15
                    try clear c15b0
                    try clear c17
                    try clear c17b0
                    try clear c18
                    try clear c18b0
                    try clear p19
                    try clear q19
                    try clear hx19
                    try clear c21
                    try clear c21b0
                    try clear c22
                    try clear c22b0
                    try clear p23
                    try clear q23
                    try clear hx23
                    try clear p19
                    try clear p2
                    try clear p23
                    try clear q19
                    try clear q23
                    obtain ⟨kq, x49_15, rfl, HA, HJ15, HB⟩ := hcut
                    cases kq with
                    | zero => exact absurd HA.out (by simp [laws_FnStuffed.j2])
                    | succ kj15 =>
                      have H := HA.out
                      clear HA
                      simp only [laws_FnStuffed.j2] at H
                      by_cases c24 : x49_15 = true
                      · subst c24
                        have H1 : (if (wrap64 (x5_2 + 1)) > 5 then (some false) else (laws_FnStuffed.l0 kj15 t180 t181 (wrap64 (x5_2 + 1)) (wrap64 (x6_2 + 1)))) = some r := by rw [if_pos rfl] at H; exact H
                        clear H
                        have H := H1
                        clear H1
                        by_cases c25 : (wrap64 (x5_2 + 1)) > 5
                        · rw [if_pos c25] at H
                          have c25b0 : decide (5 < (wrap64 (x5_2 + 1))) = true := decide_eq_true c25
                          clear c25
                          obtain rfl := Option.some.inj H
                          go_wp2
                          repeat (go_quiet (fail); try go_wp2)
                          go_ret
                          exact ⟨by first | rfl | (simp [errW_none, errW_some] <;> rfl) | (simp [*, errW_none, errW_some] <;> rfl), by repeat (first | (with_reducible first | exact HB.out | apply below_alloc | apply pw_below_drewN | apply below_drew1) | exact HB.out)⟩
                        · rw [if_neg c25] at H
                          have c25b0 : decide (5 < (wrap64 (x5_2 + 1))) = false := decide_eq_false c25
                          clear c25
                          have H' := Aside0.mk H
                          clear H
                          go_wp2
                          repeat (go_quiet (fail); try go_wp2)
                          go_roundg kj15
                          case measure => have := HJ6.out; have := HK2.out; have := HJ15.out; omega
                          case rel => exact ⟨(wrap64 (x5_2 + 1)), (wrap64 (x6_2 + 1)), (by first | rfl | (simp; done) | (simp [*]; done)), (by first | rfl | (simp; done) | (simp [*]; done)), H', ⟨by have := HJ6.out; have := HK2.out; have := HJ15.out; omega⟩, ⟨by repeat (first | (with_reducible first | exact HB.out | apply below_alloc | apply pw_below_drewN | apply below_drew1) | exact HB.out)⟩⟩
                      · replace c24 := Bool.eq_false_iff.mpr c24
                        subst c24
                        have H1 : (if 1 > 5 then (some false) else (laws_FnStuffed.l0 kj15 t180 t181 1 (wrap64 (x6_2 + 1)))) = some r := by rw [if_neg (show ¬ (false = true) by decide)] at H; exact H
                        clear H
                        have H := H1
                        clear H1
                        by_cases c26 : 1 > 5
                        · exact absurd c26 (by decide)
                        · rw [if_neg c26] at H
                          have c26b0 : decide (5 < 1) = false := decide_eq_false c26
                          clear c26
                          have H' := Aside0.mk H
                          clear H
                          go_wp2
                          repeat (go_quiet (fail); try go_wp2)
                          go_roundg kj15
                          case measure => have := HJ6.out; have := HK2.out; have := HJ15.out; omega
                          case rel => exact ⟨(1), (wrap64 (x6_2 + 1)), (by first | rfl | (simp; done) | (simp [*]; done)), (by first | rfl | (simp; done) | (simp [*]; done)), H', ⟨by have := HJ6.out; have := HK2.out; have := HJ15.out; omega⟩, ⟨by repeat (first | (with_reducible first | exact HB.out | apply below_alloc | apply pw_below_drewN | apply below_drew1) | exact HB.out)⟩⟩
                · rw [if_neg c15] at H
                  have c15b0 : decide (x6_2 < (t181.size : Int)) = false := decide_eq_false c15
                  clear c15
                  replace H := Option.bind_eq_some_iff.mp H
                  obtain ⟨⟨t184, t185⟩, A270, H⟩ := H
                  replace H : (if t184.toList = t180.toList then (some (t185 == (-1))) else (some false)) = some r := H
                  have A27 := Aside0.mk A270
                  clear A270
                  by_cases c28 : t184.toList = t180.toList
                  · rw [if_pos c28] at H
                    have c28b0 : (t184.toList == t180.toList) = true := beq_iff_eq.mpr c28
                    have c28b1 : (t184.toList != t180.toList) = false := bne_eq_false_iff_eq.mpr c28
                    clear c28
                    obtain rfl := Option.some.inj H
                    go_wp2_with (first | (go_at_call 18; (with_reducible refine (impl_Destuff.calls t181 t184 t185 _ A27.out).mono ?_); rintro e w29 ⟨rfl, hb⟩; have n0_ := Aside0.mk (below_step (by repeat (first | (with_reducible first | exact HB.out | apply below_alloc | apply pw_below_drewN | apply below_drew1) | exact HB.out)) hb); clear HB; have HB := n0_; clear n0_; (try clear hb); (try clear hb2); (try clear hk); (try clear hi)))
                    repeat (go_quiet (first | (go_at_call 18; (with_reducible refine (impl_Destuff.calls t181 t184 t185 _ A27.out).mono ?_); rintro e w29 ⟨rfl, hb⟩; have n0_ := Aside0.mk (below_step (by repeat (first | (with_reducible first | exact HB.out | apply below_alloc | apply pw_below_drewN | apply below_drew1) | exact HB.out)) hb); clear HB; have HB := n0_; clear n0_; (try clear hb); (try clear hb2); (try clear hk); (try clear hi))); try go_wp2_with (first | (go_at_call 18; (with_reducible refine (impl_Destuff.calls t181 t184 t185 _ A27.out).mono ?_); rintro e w29 ⟨rfl, hb⟩; have n0_ := Aside0.mk (below_step (by repeat (first | (with_reducible first | exact HB.out | apply below_alloc | apply pw_below_drewN | apply below_drew1) | exact HB.out)) hb); clear HB; have HB := n0_; clear n0_; (try clear hb); (try clear hb2); (try clear hk); (try clear hi))))
                    go_ret
                    exact ⟨by first | rfl | (simp [errW_none, errW_some] <;> rfl) | (simp [*, errW_none, errW_some] <;> rfl), by repeat (first | (with_reducible first | exact HB.out | apply below_alloc | apply pw_below_drewN | apply below_drew1) | exact HB.out)⟩
                  · rw [if_neg c28] at H
                    have c28b0 : (t184.toList == t180.toList) = false := beq_eq_false_iff_ne.mpr c28
                    have c28b1 : (t184.toList != t180.toList) = true := bne_iff_ne.mpr c28
                    obtain rfl := Option.some.inj H
                    go_wp2_with (first | (go_at_call 18; (with_reducible refine (impl_Destuff.calls t181 t184 t185 _ A27.out).mono ?_); rintro e w30 ⟨rfl, hb⟩; have n0_ := Aside0.mk (below_step (by repeat (first | (with_reducible first | exact HB.out | apply below_alloc | apply pw_below_drewN | apply below_drew1) | exact HB.out)) hb); clear HB; have HB := n0_; clear n0_; (try clear hb); (try clear hb2); (try clear hk); (try clear hi)))
                    repeat (go_quiet (first | (go_at_call 18; (with_reducible refine (impl_Destuff.calls t181 t184 t185 _ A27.out).mono ?_); rintro e w30 ⟨rfl, hb⟩; have n0_ := Aside0.mk (below_step (by repeat (first | (with_reducible first | exact HB.out | apply below_alloc | apply pw_below_drewN | apply below_drew1) | exact HB.out)) hb); clear HB; have HB := n0_; clear n0_; (try clear hb); (try clear hb2); (try clear hk); (try clear hi))); try go_wp2_with (first | (go_at_call 18; (with_reducible refine (impl_Destuff.calls t181 t184 t185 _ A27.out).mono ?_); rintro e w30 ⟨rfl, hb⟩; have n0_ := Aside0.mk (below_step (by repeat (first | (with_reducible first | exact HB.out | apply below_alloc | apply pw_below_drewN | apply below_drew1) | exact HB.out)) hb); clear HB; have HB := n0_; clear n0_; (try clear hb); (try clear hb2); (try clear hk); (try clear hi))))
                    go_ret
                    exact ⟨by first | rfl | (simp [errW_none, errW_some] <;> rfl) | (simp [*, errW_none, errW_some] <;> rfl), by repeat (first | (with_reducible first | exact HB.out | apply below_alloc | apply pw_below_drewN | apply below_drew1) | exact HB.out)⟩
    · rw [if_neg c6] at H
      have c6b0 : ((t181.size : Int) == (t182.size : Int)) = false := beq_eq_false_iff_ne.mpr c6
      have c6b1 : ((t181.size : Int) != (t182.size : Int)) = true := bne_iff_ne.mpr c6
      have c6b2 : (t181.size == t182.size) = false := by first | simpa using c6 | (simp at c6 ⊢; omega)
      obtain rfl := Option.some.inj H
      go_enter Try.func12, Try.ntmps12
      go_wp2_with (first | (go_at_call 41; (with_reducible refine (spec_DrawStuff.calls k _ _ l0 t180 _ ?side1 ?side2 A3.out).mono ?_); (case side1 => repeat (first | exact HR0.out | (with_reducible refine Kd.C_alloc ?_ _) | (with_reducible refine Kd.C_drewN ?_ _) | (with_reducible refine Kd.C_drew ?_))); (case side2 => exact HC0.out); rintro e w31 ⟨rfl, hb⟩; have n0_ := Aside0.mk (below_step (by repeat (first | (with_reducible first | exact HB.out | apply below_alloc | apply pw_below_drewN | apply below_drew1) | exact HB.out)) hb); clear HB; have HB := n0_; clear n0_; (try clear hb); (try clear hb2); (try clear hk); (try clear hi)) | (go_at_call 20; (with_reducible refine (impl_Stuff.calls t180 t181 _ A4.out).mono ?_); rintro e w32 ⟨rfl, hb⟩; have n0_ := Aside0.mk (below_step (by repeat (first | (with_reducible first | exact HB.out | apply below_alloc | apply pw_below_drewN | apply below_drew1) | exact HB.out)) hb); clear HB; have HB := n0_; clear n0_; (try clear hb); (try clear hb2); (try clear hk); (try clear hi)) | (go_at_call 19; (with_reducible refine (spec_Stuff.calls k t180 t182 _ A5.out).mono ?_); rintro e w33 ⟨rfl, hb⟩; have n0_ := Aside0.mk (below_step (by repeat (first | (with_reducible first | exact HB.out | apply below_alloc | apply pw_below_drewN | apply below_drew1) | exact HB.out)) hb); clear HB; have HB := n0_; clear n0_; (try clear hb); (try clear hb2); (try clear hk); (try clear hi)))
      repeat (go_quiet (first | (go_at_call 41; (with_reducible refine (spec_DrawStuff.calls k _ _ l0 t180 _ ?side1 ?side2 A3.out).mono ?_); (case side1 => repeat (first | exact HR0.out | (with_reducible refine Kd.C_alloc ?_ _) | (with_reducible refine Kd.C_drewN ?_ _) | (with_reducible refine Kd.C_drew ?_))); (case side2 => exact HC0.out); rintro e w31 ⟨rfl, hb⟩; have n0_ := Aside0.mk (below_step (by repeat (first | (with_reducible first | exact HB.out | apply below_alloc | apply pw_below_drewN | apply below_drew1) | exact HB.out)) hb); clear HB; have HB := n0_; clear n0_; (try clear hb); (try clear hb2); (try clear hk); (try clear hi)) | (go_at_call 20; (with_reducible refine (impl_Stuff.calls t180 t181 _ A4.out).mono ?_); rintro e w32 ⟨rfl, hb⟩; have n0_ := Aside0.mk (below_step (by repeat (first | (with_reducible first | exact HB.out | apply below_alloc | apply pw_below_drewN | apply below_drew1) | exact HB.out)) hb); clear HB; have HB := n0_; clear n0_; (try clear hb); (try clear hb2); (try clear hk); (try clear hi)) | (go_at_call 19; (with_reducible refine (spec_Stuff.calls k t180 t182 _ A5.out).mono ?_); rintro e w33 ⟨rfl, hb⟩; have n0_ := Aside0.mk (below_step (by repeat (first | (with_reducible first | exact HB.out | apply below_alloc | apply pw_below_drewN | apply below_drew1) | exact HB.out)) hb); clear HB; have HB := n0_; clear n0_; (try clear hb); (try clear hb2); (try clear hk); (try clear hi))); try go_wp2_with (first | (go_at_call 41; (with_reducible refine (spec_DrawStuff.calls k _ _ l0 t180 _ ?side1 ?side2 A3.out).mono ?_); (case side1 => repeat (first | exact HR0.out | (with_reducible refine Kd.C_alloc ?_ _) | (with_reducible refine Kd.C_drewN ?_ _) | (with_reducible refine Kd.C_drew ?_))); (case side2 => exact HC0.out); rintro e w31 ⟨rfl, hb⟩; have n0_ := Aside0.mk (below_step (by repeat (first | (with_reducible first | exact HB.out | apply below_alloc | apply pw_below_drewN | apply below_drew1) | exact HB.out)) hb); clear HB; have HB := n0_; clear n0_; (try clear hb); (try clear hb2); (try clear hk); (try clear hi)) | (go_at_call 20; (with_reducible refine (impl_Stuff.calls t180 t181 _ A4.out).mono ?_); rintro e w32 ⟨rfl, hb⟩; have n0_ := Aside0.mk (below_step (by repeat (first | (with_reducible first | exact HB.out | apply below_alloc | apply pw_below_drewN | apply below_drew1) | exact HB.out)) hb); clear HB; have HB := n0_; clear n0_; (try clear hb); (try clear hb2); (try clear hk); (try clear hi)) | (go_at_call 19; (with_reducible refine (spec_Stuff.calls k t180 t182 _ A5.out).mono ?_); rintro e w33 ⟨rfl, hb⟩; have n0_ := Aside0.mk (below_step (by repeat (first | (with_reducible first | exact HB.out | apply below_alloc | apply pw_below_drewN | apply below_drew1) | exact HB.out)) hb); clear HB; have HB := n0_; clear n0_; (try clear hb); (try clear hb2); (try clear hk); (try clear hi))))
      go_ret
      exact ⟨by first | rfl | (simp [errW_none, errW_some] <;> rfl) | (simp [*, errW_none, errW_some] <;> rfl), by repeat (first | (with_reducible first | exact HB.out | apply below_alloc | apply pw_below_drewN | apply below_drew1) | exact HB.out)⟩

/-- THE ONE PURE STATEMENT of laws_FnStuffed: yours. -/
def laws_FnStuffed.Pure : Prop := ∀ (l0 : List Int), l0.length ≤ maxLen → l0.length * 1 ≤ 140737488351232 → (∀ x ∈ l0, (Lit.int .u8 x).wf = true) → ∃ k, laws_FnStuffed.f k l0 = some true
theorem laws_FnStuffed.walk (P : laws_FnStuffed.Pure) (a0 : Option Addr) (len0 cap0 : Nat) (z0 : List Int) (w : World) (w0 : (a0 = none ∧ len0 = 0 ∧ cap0 = 0 ∧ z0 = []) ∨ ∃ x, a0 = some x ∧ len0 ≤ cap0 ∧ cap0 ≤ maxLen ∧ z0.length = cap0 ∧ (∀ i, i < z0.length → w.cell? (x.add i) = some (.int .u8 (z0.getD i 0))) ∧ ∀ n ∈ z0, (Lit.int .u8 n).wf = true) (y0 : len0 * 1 ≤ 140737488351232) :
    Calls Try.prog 12 #[.slice a0 len0 cap0] w fun e w' => e = .returned (.bool true) ∧ Below w.heap.size w w' := by
  obtain ⟨l0, rfl, hr0, hm0, hw0, hc0⟩ := ReadsInt.ofRowC w0
  obtain ⟨k, h⟩ := P l0 hm0 y0 hw0
  refine (laws_FnStuffed.calls k _ _ l0 true w (Kd.C_of_reads (d := (0 : Int)) (h1 := fun _ => rfl) hr0) hc0 h).mono ?_
  rintro e w' ⟨rfl, hd⟩
  exact ⟨rfl, hd⟩

end Go.Proofs.Ytogedkkdhonmlaa.P

namespace Go.Proofs.Ytogedkkdhonmlaa.P
open Go Go.RowKit Go.Proofs.YtogedkkdhonmlaaW.PrintWords
set_option linter.unusedVariables false
/-! ### The register of the sum, in natural numbers -/
def crcN (r b : Nat) : Nat := if (r / 16384) ^^^ b = 1 then (2 * r % 32768) ^^^ 17817 else 2 * r % 32768
theorem bits_xor_i64 (a b : Nat) (ha : a < 2 ^ 62) (hb : b < 2 ^ 62) : bits .xor .i64 (a : Int) (b : Int) = ((a ^^^ b : Nat) : Int) := by
  have hp : (2 : Nat) ^ 62 ≤ 2 ^ IntKind.i64.bits := Nat.pow_le_pow_right (by decide) (by decide)
  have ha' : a % 2 ^ IntKind.i64.bits = a := Nat.mod_eq_of_lt (Nat.lt_of_lt_of_le ha hp)
  have hb' : b % 2 ^ IntKind.i64.bits = b := Nat.mod_eq_of_lt (Nat.lt_of_lt_of_le hb hp)
  simp only [bits, BitVec.ofInt_natCast, BitVec.toNat_xor, BitVec.toNat_ofNat, ha', hb']
  have h := Nat.xor_lt_two_pow ha hb
  rw [IntKind.wrap_i64]
  omega
theorem bits_and_i64 (a b : Nat) (ha : a < 2 ^ 62) (hb : b < 2 ^ 62) : bits .and .i64 (a : Int) (b : Int) = ((a &&& b : Nat) : Int) :=
  (bits_nat .i64 62 (by decide) (fun n h0 h1 => by rw [IntKind.wrap_i64]; omega) a b ha hb).1
theorem crcI_nat (r b : Nat) (hr : r < 32768) (hb : b ≤ 1) : crcI r b = crcN r b := by
  have h1 : ((r : Int) / 16384) = ((r / 16384 : Nat) : Int) := by omega
  have h2 : bits .and .i64 ((r : Int) / 16384) 1 = ((r / 16384 : Nat) : Int) := by
    rw [h1]
    have := bits_and_i64 (r / 16384) 1 (by omega) (by decide)
    rw [show ((1 : Nat) : Int) = 1 from rfl] at this
    rw [this, Nat.and_one_is_mod]
    omega
  have h3 : bits .and .i64 (wrap64 ((r : Int) * 2)) 32767 = ((2 * r % 32768 : Nat) : Int) := by
    have hw : wrap64 ((r : Int) * 2) = ((2 * r : Nat) : Int) := by unfold wrap64; omega
    rw [hw]
    have := bits_and_i64 (2 * r) 32767 (by omega) (by decide)
    rw [show ((32767 : Nat) : Int) = 32767 from rfl] at this
    rw [this, show (32767 : Nat) = 2 ^ 15 - 1 from rfl, Nat.and_two_pow_sub_one_eq_mod]
  have h4 : bits .xor .i64 ((r / 16384 : Nat) : Int) (b : Int) = ((r / 16384 ^^^ b : Nat) : Int) := bits_xor_i64 _ _ (by omega) (by omega)
  have h5 : bits .xor .i64 ((2 * r % 32768 : Nat) : Int) 17817 = ((2 * r % 32768 ^^^ 17817 : Nat) : Int) := bits_xor_i64 _ 17817 (by omega) (by decide)
  unfold crcI crcN
  rw [h2, h3, h4, h5]
  by_cases c : r / 16384 ^^^ b = 1
  · rw [if_pos c, if_pos (by rw [c]; rfl)]
  · rw [if_neg c, if_neg (by omega)]
theorem crcN_lt (r b : Nat) : crcN r b < 32768 := by
  unfold crcN
  split
  · exact Nat.xor_lt_two_pow (n := 15) (by omega) (by decide)
  · omega
/-- A letter as a bit. -/
def bitN (c : Int) : Nat := if c = 49 then 1 else 0
def bitB (c : Int) : Bool := decide (c = 49)
/-- The sum of a list of letters. -/
def crcL (l : List Int) : Nat := l.foldl (fun r c => crcN r (bitN c)) 0
theorem crcL_snoc (l : List Int) (c : Int) : crcL (l ++ [c]) = crcN (crcL l) (bitN c) := by
  unfold crcL; rw [List.foldl_append]; rfl
/-- Induction from behind. -/
theorem snoc_ind {α : Type} {p : List α → Prop} (h0 : p []) (h1 : ∀ l c, p l → p (l ++ [c])) (l : List α) : p l := by
  have key : ∀ m : List α, p m.reverse := by
    intro m
    induction m with
    | nil => exact h0
    | cons a m ih => rw [List.reverse_cons]; exact h1 _ _ ih
  have := key l.reverse
  rwa [List.reverse_reverse] at this
theorem crcL_lt (l : List Int) : crcL l < 32768 := by
  induction l using snoc_ind with
  | h0 => decide
  | h1 l c _ => rw [crcL_snoc]; exact crcN_lt _ _
theorem crcI_list (l : List Int) (hl : ∀ c ∈ l, c = 48 ∨ c = 49) : l.foldl (fun r c => crcI r (c - 48)) 0 = (crcL l : Int) := by
  induction l using snoc_ind with
  | h0 => rfl
  | h1 l c ih =>
    rw [List.foldl_append, ih (fun x hx => hl x (List.mem_append_left _ hx)), crcL_snoc, List.foldl_cons, List.foldl_nil]
    rcases hl c (by simp) with rfl | rfl
    · exact crcI_nat _ 0 (crcL_lt l) (by decide)
    · exact crcI_nat _ 1 (crcL_lt l) (by decide)
/-- What one bit does to the register, place by place. -/
theorem crcN_testBit (r b : Nat) (hr : r < 32768) (hb : b ≤ 1) (j : Nat) (hj : j < 15) :
    (crcN r b).testBit j = (((decide (0 < j)) && r.testBit (j - 1)) ^^ ((r.testBit 14 ^^ decide (b = 1)) && Nat.testBit 17817 j)) := by
  have h14 : r.testBit 14 = decide (r / 16384 = 1) := by
    rw [Nat.testBit_eq_decide_div_mod_eq]
    congr 1
    have : r / 2 ^ 14 % 2 = r / 16384 := by omega
    rw [this]
  have hy : (2 * r % 32768).testBit j = (decide (0 < j) && r.testBit (j - 1)) := by
    rw [show (32768 : Nat) = 2 ^ 15 from rfl, Nat.testBit_mod_two_pow, show 2 * r = r <<< 1 by omega, Nat.testBit_shiftLeft]
    simp [hj]
    rfl
  have hx : (r / 16384 ^^^ b = 1) ↔ (r.testBit 14 ^^ decide (b = 1)) = true := by
    rw [h14]
    have h0 : r / 16384 = 0 ∨ r / 16384 = 1 := by omega
    have h1 : b = 0 ∨ b = 1 := by omega
    rcases h0 with h0 | h0 <;> rcases h1 with h1 | h1 <;> rw [h0, h1] <;> decide
  unfold crcN
  by_cases c : r / 16384 ^^^ b = 1
  · rw [if_pos c, Nat.testBit_xor, hy, hx.1 c, Bool.true_and]
  · rw [if_neg c, hy]
    have : (r.testBit 14 ^^ decide (b = 1)) = false := by
      cases h : (r.testBit 14 ^^ decide (b = 1)) with
      | false => rfl
      | true => exact absurd (hx.2 h) c
    rw [this]; simp
end Go.Proofs.Ytogedkkdhonmlaa.P

namespace Go.Proofs.Ytogedkkdhonmlaa.P
open Go Go.RowKit Go.Proofs.YtogedkkdhonmlaaW.PrintWords
set_option linter.unusedVariables false
/-! ### Texts out of letters -/
theorem text_ext {a b : ByteArray} (h : a.data.toList = b.data.toList) : a = b := by
  cases a; cases b
  exact congrArg ByteArray.mk (Array.toList_inj.1 h)
theorem str_append (a b : List Int) : strOfNums (a ++ b) = strOfNums a ++ strOfNums b := by
  apply text_ext
  rw [Joins.data_append, strOfNums_data, strOfNums_data, strOfNums_data, List.map_append]
theorem str_extract_left (a b : List Int) : (strOfNums (a ++ b)).extract 0 a.length = strOfNums a := by
  apply text_ext
  rw [Lib.extract_data, strOfNums_data, strOfNums_data, List.drop_zero, List.map_append, Nat.sub_zero]
  exact List.take_left' (by simp)
theorem str_extract_right (a b : List Int) : (strOfNums (a ++ b)).extract a.length (strOfNums (a ++ b)).size = strOfNums b := by
  apply text_ext
  rw [Lib.extract_data, strOfNums_data, strOfNums_data, List.map_append, List.drop_left' (by simp), strOfNums_size, List.length_append, List.take_of_length_le (by simp)]
theorem str_extract (l : List Int) (a b : Nat) (h : a ≤ b) : (strOfNums l).extract a b = strOfNums ((l.drop a).take (b - a)) := by
  apply text_ext
  rw [Lib.extract_data, strOfNums_data, strOfNums_data, List.map_take, List.map_drop]
theorem bytes_str (l : List Int) (h : ∀ x ∈ l, 0 ≤ x ∧ x < 256) : bytesOf (strOfNums l) = l := by
  unfold bytesOf
  rw [strOfNums_data, List.map_map]
  conv => rhs; rw [← List.map_id l]
  refine List.map_congr_left fun x hx => ?_
  have := h x hx
  simp only [Function.comp, id]
  rw [UInt8.toNat_ofNat_of_lt' (show x.toNat < UInt8.size by simp [UInt8.size]; omega)]
  omega
theorem numL_snoc (u n : Nat) : numL u (n + 1) = numL (u / 2) n ++ [48 + ((u % 2 : Nat) : Int)] := by
  induction n with
  | zero => simp [numL]
  | succ n ih =>
    rw [numL, ih, numL, List.cons_append]
    congr 3
    rw [Nat.div_div_eq_div_mul, Nat.pow_succ, Nat.mul_comm]
theorem numL_add (u a b : Nat) : numL u (a + b) = numL (u / 2 ^ b) a ++ numL u b := by
  induction a with
  | zero => rw [Nat.zero_add]; rfl
  | succ a ih =>
    rw [show a + 1 + b = (a + b) + 1 by omega, numL, ih, numL, List.cons_append, Nat.div_div_eq_div_mul, ← Nat.pow_add, Nat.add_comm b a]
theorem numL_bits (u n : Nat) : ∀ x ∈ numL u n, x = 48 ∨ x = 49 := by
  induction n with
  | zero => intro x hx; cases hx
  | succ n ih =>
    intro x hx
    rw [numL] at hx
    rcases List.mem_cons.1 hx with rfl | hx
    · have : u / 2 ^ n % 2 < 2 := Nat.mod_lt _ (by decide)
      omega
    · exact ih x hx
def Bits (l : List Int) : Prop := ∀ x ∈ l, x = 48 ∨ x = 49
theorem Bits.range {l : List Int} (h : Bits l) : ∀ x ∈ l, 0 ≤ x ∧ x < 256 := fun x hx => by rcases h x hx with rfl | rfl <;> omega
theorem Bits.append {a b : List Int} (h : Bits a) (k : Bits b) : Bits (a ++ b) := fun x hx => (List.mem_append.1 hx).elim (h x) (k x)
theorem isBits_str {l : List Int} (h : Bits l) : isBits (strOfNums l) = true := by
  unfold isBits
  rw [strOfNums_data, List.all_map, List.all_eq_true]
  intro x hx
  rcases h x hx with rfl | rfl <;> rfl
theorem crcOf_str {l : List Int} (h : Bits l) : crcOf (strOfNums l) = (crcL l : Int) := by
  unfold crcOf
  rw [bytes_str l h.range]
  exact crcI_list l h
theorem flagL_bits (b : Bool) : Bits (flagL b) := by cases b <;> intro x hx <;> simp [flagL, b2] at hx <;> omega
theorem dataL_bits (l : List Int) : Bits (dataL l) := by
  intro x hx
  obtain ⟨y, _, hy⟩ := List.mem_flatMap.1 hx
  exact numL_bits _ _ x hy
theorem bodyL_bits (ext : Bool) (id : Int) (rtr : Bool) (dlc : Int) (l : List Int) : Bits (bodyL ext id rtr dlc l) := by
  unfold bodyL headL
  refine ((?_ : Bits _).append (numL_bits _ _)).append (dataL_bits l)
  cases ext
  · exact (((Bits.append (numL_bits _ _) (numL_bits _ _)).append (flagL_bits rtr)).append (numL_bits _ _))
  · exact ((((Bits.append (Bits.append (numL_bits _ _) (numL_bits _ _)) (numL_bits _ _)).append (numL_bits _ _)).append (flagL_bits rtr)).append (numL_bits _ _))
theorem bodyL_length (ext : Bool) (id : Int) (rtr : Bool) (dlc : Int) (l : List Int) (h : l.length ≤ 8) : (bodyL ext id rtr dlc l).length ≤ 103 := by
  unfold bodyL
  rw [List.length_append, List.length_append, numL_length, dataL_length]
  have := headL_length ext id rtr
  omega
/-- The plain bits of a frame, its sum behind. -/
def plainL (ext : Bool) (id : Int) (rtr : Bool) (dlc : Int) (l : List Int) : List Int := bodyL ext id rtr dlc l ++ numL (crcL (bodyL ext id rtr dlc l)) 15
theorem plainL_bits (ext : Bool) (id : Int) (rtr : Bool) (dlc : Int) (l : List Int) : Bits (plainL ext id rtr dlc l) := (bodyL_bits ext id rtr dlc l).append (numL_bits _ _)
theorem plainL_length (ext : Bool) (id : Int) (rtr : Bool) (dlc : Int) (l : List Int) (h : l.length ≤ 8) : (plainL ext id rtr dlc l).length ≤ 118 := by
  unfold plainL
  rw [List.length_append, numL_length]
  have := bodyL_length ext id rtr dlc l h
  omega
def onesL : List Int := [49, 49, 49, 49, 49, 49, 49, 49, 49, 49]
end Go.Proofs.Ytogedkkdhonmlaa.P

/- Stuffing: never six equal letters in a row; taking out what was put in gives the text. -/
namespace Go.Proofs.Ytogedkkdhonmlaa.P
open Go Go.RowKit Go.Proofs.YtogedkkdhonmlaaW.PrintWords
set_option linter.unusedVariables false
def stuffS : List Int → Int → Int → List Int
  | [], _, _ => []
  | c :: l, run, last => if (if c = last then run + 1 else 1) = 5 then c :: (97 - c) :: stuffS l 1 (97 - c) else c :: stuffS l (if c = last then run + 1 else 1) c
theorem stuff_fold : ∀ (l out : List Int) (run last : Int), (l.foldl stuffStep (out, run, last)).1 = out ++ stuffS l run last := by
  intro l
  induction l with
  | nil => intro out run last; simp [stuffS]
  | cons c l ih =>
    intro out run last
    rw [List.foldl_cons, stuffS]
    unfold stuffStep
    simp only []
    by_cases h : (if c = last then run + 1 else 1) = 5
    · rw [if_pos h, if_pos h]
      have := ih (out ++ [c] ++ [97 - c]) 1 (97 - c)
      unfold stuffStep at this
      rw [this]
      simp
    · rw [if_neg h, if_neg h]
      have := ih (out ++ [c]) (if c = last then run + 1 else 1) c
      unfold stuffStep at this
      rw [this]
      simp
theorem stuffL_eq (l : List Int) : stuffL l = stuffS l 0 120 := by
  unfold stuffL
  rw [stuff_fold]
  simp
theorem destuff_stuffS : ∀ (l : List Int) (i run last : Int) (out : List Int), run ≤ 4 → 0 ≤ run → destuffL (stuffS l run last) i run last out = (out ++ l, -1) := by
  intro l
  induction l with
  | nil => intro i run last out _ _; simp [stuffS, destuffL]
  | cons c l ih =>
    intro i run last out h h0
    have hr : ¬ run = 5 := by omega
    rw [stuffS]
    by_cases e : (if c = last then run + 1 else 1) = 5
    · rw [if_pos e, destuffL, if_neg hr, e, destuffL, if_pos rfl, if_neg (by omega), ih _ _ _ _ (by omega) (by omega)]
      simp
    · rw [if_neg e, destuffL, if_neg hr]
      have h1 : (if c = last then run + 1 else 1) ≤ 4 ∧ 0 ≤ (if c = last then run + 1 else 1) := by split at e <;> split <;> omega
      rw [ih _ _ _ _ h1.1 h1.2]
      simp
theorem destuff_stuff (l : List Int) : destuffL (stuffL l) 0 0 120 [] = (l, -1) := by
  rw [stuffL_eq, destuff_stuffS l 0 0 120 [] (by omega) (by omega)]
  rfl
/-- No six in a row, from a run on. -/
def okWalk : List Int → Int → Int → Prop
  | [], _, _ => True
  | c :: l, run, last => (if c = last then run + 1 else 1) ≤ 5 ∧ okWalk l (if c = last then run + 1 else 1) c
theorem okWalk_stuffS : ∀ (l : List Int) (run last : Int), run ≤ 4 → 0 ≤ run → okWalk (stuffS l run last) run last := by
  intro l
  induction l with
  | nil => intro run last _ _; exact trivial
  | cons c l ih =>
    intro run last h h0
    rw [stuffS]
    by_cases e : (if c = last then run + 1 else 1) = 5
    · rw [if_pos e, okWalk, e, okWalk, if_neg (by omega)]
      exact ⟨by omega, by omega, ih 1 (97 - c) (by omega) (by omega)⟩
    · rw [if_neg e, okWalk]
      have h1 : (if c = last then run + 1 else 1) ≤ 4 ∧ 0 ≤ (if c = last then run + 1 else 1) := by split at e <;> split <;> omega
      exact ⟨by omega, ih _ _ h1.1 h1.2⟩
theorem stuffS_bits : ∀ (l : List Int) (run last : Int), Bits l → Bits (stuffS l run last) := by
  intro l
  induction l with
  | nil => intro run last h; exact h
  | cons c l ih =>
    intro run last h
    have hc := h c (by simp)
    have hl : Bits l := fun x hx => h x (by simp [hx])
    rw [stuffS]
    by_cases e : (if c = last then run + 1 else 1) = 5
    · rw [if_pos e]
      intro x hx
      rcases List.mem_cons.1 hx with rfl | hx
      · exact hc
      · rcases List.mem_cons.1 hx with rfl | hx
        · omega
        · exact ih _ _ hl x hx
    · rw [if_neg e]
      intro x hx
      rcases List.mem_cons.1 hx with rfl | hx
      · exact hc
      · exact ih _ _ hl x hx
theorem stuffL_bits {l : List Int} (h : Bits l) : Bits (stuffL l) := by rw [stuffL_eq]; exact stuffS_bits l 0 120 h
theorem bits_bytes {s : ByteArray} (h : isBits s = true) : Bits (bytesOf s) := by
  intro x hx
  unfold bytesOf at hx
  obtain ⟨b, hb, rfl⟩ := List.mem_map.1 hx
  unfold isBits at h
  rcases isBit_cases (List.all_eq_true.1 h b hb) with e | e <;> rw [e]
  · exact .inl rfl
  · exact .inr rfl
theorem str_bytes (s : ByteArray) : strOfNums (bytesOf s) = s := by
  apply text_ext
  rw [strOfNums_data]
  unfold bytesOf
  rw [List.map_map]
  conv => rhs; rw [← List.map_id s.data.toList]
  refine List.map_congr_left fun b _ => ?_
  simp [Function.comp]
end Go.Proofs.Ytogedkkdhonmlaa.P

/- Runs of equal letters: what destuffing makes of them. -/
namespace Go.Proofs.Ytogedkkdhonmlaa.P
open Go Go.RowKit Go.Proofs.YtogedkkdhonmlaaW.PrintWords
set_option linter.unusedVariables false
def letter (a i : Int) : Int := 48 + (a + i) % 2
def expL (a : Int) : Nat → List Int → List Int
  | _, [] => []
  | i, n :: l => List.replicate n.toNat (letter a i) ++ expL a (i + 1) l
def runsL (a : Int) : Nat → Int → Int → List Int → List Int → List Int × Int
  | _, _, _, out, [] => (out, -1)
  | i, at_, carry, out, n :: l => if n > 5 then (out ++ List.replicate (5 - carry).toNat (letter a i), at_ + 5) else runsL a (i + 1) (at_ + n) (if n = 5 then 1 else 0) (out ++ List.replicate (n - carry).toNat (letter a i)) l
def okRuns : Int → List Int → Bool
  | _, [] => true
  | s, n :: l => decide (1 ≤ n) && (decide (s + n ≤ 4000) && okRuns (s + n) l)
theorem okRuns_cons {s n : Int} {l : List Int} : okRuns s (n :: l) = true ↔ 1 ≤ n ∧ s + n ≤ 4000 ∧ okRuns (s + n) l = true := by
  rw [okRuns, Bool.and_eq_true, Bool.and_eq_true, decide_eq_true_eq, decide_eq_true_eq]
theorem des_run (c : Int) (rest : List Int) : ∀ (m : Nat) (at_ r : Int) (out : List Int), 0 ≤ r → r ≤ 5 → destuffL (List.replicate m c ++ rest) at_ r c out = if r + m ≤ 5 then destuffL rest (at_ + m) (r + m) c (out ++ List.replicate m c) else (out ++ List.replicate (5 - r).toNat c, at_ + (5 - r)) := by
  intro m
  induction m with
  | zero => intro at_ r out h0 h5; rw [if_pos (by simp; omega)]; simp
  | succ m ih =>
    intro at_ r out h0 h5
    rw [List.replicate_succ, List.cons_append, destuffL]
    by_cases e : r = 5
    · subst e
      rw [if_pos rfl, if_pos rfl, if_neg (by omega)]
      simp
    · rw [if_neg e, if_pos rfl, ih _ _ _ (by omega) (by omega)]
      by_cases c1 : r + 1 + (m : Int) ≤ 5
      · rw [if_pos c1, if_pos (by omega), show at_ + 1 + (m : Int) = at_ + ((m + 1 : Nat) : Int) by omega, show r + 1 + (m : Int) = r + ((m + 1 : Nat) : Int) by omega, List.append_assoc]
        rfl
      · rw [if_neg c1, if_neg (by omega), List.append_assoc, show (5 - r).toNat = (5 - (r + 1)).toNat + 1 by omega, List.replicate_succ, show at_ + 1 + (5 - (r + 1)) = at_ + (5 - r) by omega]
        rfl
theorem letter_ne (a : Int) (i : Nat) : letter a i ≠ letter a ((i + 1 : Nat) : Int) := by unfold letter; omega
theorem letter_cases (a i : Int) : letter a i = 48 ∨ letter a i = 49 := by unfold letter; omega
theorem des_runs (a : Int) : ∀ (l : List Int) (i : Nat) (s at_ r last : Int) (out : List Int), okRuns s l = true → 0 ≤ r → r ≤ 5 → last ≠ letter a i → destuffL (expL a i l) at_ r last out = runsL a i at_ (if r = 5 then 1 else 0) out l := by
  intro l
  induction l with
  | nil => intro i s at_ r last out _ _ _ _; rfl
  | cons n l ih =>
    intro i s at_ r last out hok h0 h5 hl
    obtain ⟨h1, h2, h3⟩ := okRuns_cons.1 hok
    obtain ⟨m, hm⟩ : ∃ m : Nat, n = ((m + 1 : Nat) : Int) := ⟨(n - 1).toNat, by omega⟩
    subst hm
    rw [expL, Int.toNat_natCast, List.replicate_succ, List.cons_append, destuffL, runsL]
    have hne : ¬ letter a i = last := fun e => hl e.symm
    by_cases e : r = 5
    · rw [if_pos e, if_neg hne, des_run _ _ m _ 1 _ (by omega) (by omega), if_pos e]
      by_cases c1 : 1 + (m : Int) ≤ 5
      · rw [if_pos c1, if_neg (by omega), ih (i + 1) _ _ _ _ _ h3 (by omega) (by omega) (letter_ne a i)]
        congr 1
        · omega
        · by_cases c2 : (m : Int) = 4
          · rw [if_pos (by omega), if_pos (by omega)]
          · rw [if_neg (by omega), if_neg (by omega)]
        · rw [show (((m + 1 : Nat) : Int) - 1).toNat = m by omega]
      · rw [if_neg c1, if_pos (by omega)]
        congr 1
        omega
    · rw [if_neg e, if_neg hne, des_run _ _ m _ 1 _ (by omega) (by omega), if_neg e]
      by_cases c1 : 1 + (m : Int) ≤ 5
      · rw [if_pos c1, if_neg (by omega), ih (i + 1) _ _ _ _ _ h3 (by omega) (by omega) (letter_ne a i)]
        congr 1
        · omega
        · by_cases c2 : (m : Int) = 4
          · rw [if_pos (by omega), if_pos (by omega)]
          · rw [if_neg (by omega), if_neg (by omega)]
        · rw [show (((m + 1 : Nat) : Int) - 0).toNat = m + 1 by omega, List.append_assoc, List.replicate_succ]
          rfl
      · rw [if_neg c1, if_pos (by omega), List.append_assoc]
        congr 1
        omega
theorem expL_len (a : Int) : ∀ (l : List Int) (i : Nat) (s : Int), okRuns s l = true → s ≤ 4000 → s + ((expL a i l).length : Int) ≤ 4000 := by
  intro l
  induction l with
  | nil => intro i s _ h; simpa [expL] using h
  | cons n l ih =>
    intro i s hok h
    obtain ⟨h1, h2, h3⟩ := okRuns_cons.1 hok
    have := ih (i + 1) _ h3 h2
    rw [expL, List.length_append, List.length_replicate]
    omega
theorem expL_bits (a : Int) : ∀ (l : List Int) (i : Nat), Bits (expL a i l) := by
  intro l
  induction l with
  | nil => intro i x hx; cases hx
  | cons n l ih =>
    intro i
    refine Bits.append (fun x hx => ?_) (ih (i + 1))
    rw [(List.mem_replicate.1 hx).2]
    exact letter_cases a i
theorem drop_rd (l : List Int) (i : Nat) (h : i < l.length) : l.drop i = rd l (i : Int) :: l.drop (i + 1) := by
  have h1 := rd_get l i h
  rw [List.getElem?_eq_getElem h] at h1
  rw [List.drop_eq_getElem_cons h, Option.some.inj h1]
def runsF (a : Int) (l : List Int) : ByteArray × Int := (strOfNums (runsL a 0 0 0 [] l).1, (runsL a 0 0 0 [] l).2)
def badV : ByteArray × Int := (⟨#[]⟩, -2)
def runsV (a : Int) (l : List Int) : ByteArray × Int := if (a = 0 ∨ a = 1) ∧ l.length ≤ 4000 ∧ okRuns 0 l = true then runsF a l else badV
theorem destuffV_runs (a : Int) (l : List Int) (h : okRuns 0 l = true) : destuffV (strOfNums (expL a 0 l)) = runsF a l := by
  have hb := expL_bits a l 0
  have hl := expL_len a l 0 0 h (by omega)
  unfold destuffV runsF
  rw [if_pos ⟨by rw [strOfNums_size]; omega, isBits_str hb⟩, bytes_str _ hb.range, des_runs a l 0 0 0 0 120 [] h (by omega) (by omega) (by have := letter_cases a ((0 : Nat) : Int); omega)]
  rfl
end Go.Proofs.Ytogedkkdhonmlaa.P

namespace Go.Proofs.Ytogedkkdhonmlaa.P
open Go Go.RowKit Go.Proofs.YtogedkkdhonmlaaW.PrintWords
set_option linter.unusedVariables false
/-! ### How many equal letters stand last -/
structure Trail (l : List Int) (n run : Nat) (last : Int) : Prop where
  le : n ≤ l.length
  run_le : run ≤ n
  same : ∀ j, n - run ≤ j → j < n → rd l (j : Int) = last
  other : run < n → rd l ((n - run - 1 : Nat) : Int) ≠ last
  pos : 0 < n → 0 < run
theorem Trail.zero (l : List Int) (last : Int) : Trail l 0 0 last := ⟨Nat.zero_le _, Nat.le_refl _, fun j _ h => absurd h (Nat.not_lt_zero j), fun h => absurd h (Nat.lt_irrefl _), fun h => absurd h (Nat.lt_irrefl _)⟩
theorem Trail.next {l : List Int} {n run : Nat} {last : Int} (h : Trail l n run last) (hn : n < l.length) : Trail l (n + 1) (if rd l (n : Int) = last then run + 1 else 1) (rd l (n : Int)) := by
  have hr := h.run_le
  by_cases c : rd l (n : Int) = last
  · rw [if_pos c]
    refine ⟨by omega, by omega, fun j h1 h2 => ?_, fun h1 => ?_, fun _ => by omega⟩
    · by_cases e : j = n
      · rw [e]
      · rw [h.same j (by omega) (by omega), c]
    · rw [show n + 1 - (run + 1) - 1 = n - run - 1 by omega, c]
      exact h.other (by omega)
  · rw [if_neg c]
    refine ⟨by omega, by omega, fun j h1 h2 => ?_, fun h1 => ?_, fun _ => by omega⟩
    · rw [show j = n by omega]
    · rw [show n + 1 - 1 - 1 = n - 1 by omega]
      have hp := h.pos (by omega)
      rw [h.same (n - 1) (by omega) (by omega)]
      exact fun e => c e.symm
theorem rd_append (l m : List Int) (j : Nat) (h : j < l.length) : rd (l ++ m) (j : Int) = rd l (j : Int) := by
  unfold rd
  rw [Int.toNat_natCast, List.getD_eq_getElem?_getD, List.getD_eq_getElem?_getD, List.getElem?_append_left h]
theorem rd_last (l : List Int) (c : Int) : rd (l ++ [c]) (l.length : Int) = c := by
  rw [rd_snoc, if_neg (Nat.lt_irrefl _), if_pos rfl]
theorem Trail.append {l : List Int} {n run : Nat} {last : Int} (h : Trail l n run last) (m : List Int) : Trail (l ++ m) n run last := by
  have := h.le
  refine ⟨by rw [List.length_append]; omega, h.run_le, fun j h1 h2 => ?_, fun h1 => ?_, h.pos⟩
  · rw [rd_append l m j (by omega)]; exact h.same j h1 h2
  · rw [rd_append l m _ (by omega)]; exact h.other h1
theorem Trail.snoc {l : List Int} {run : Nat} {last : Int} (h : Trail l l.length run last) (c : Int) : Trail (l ++ [c]) (l.length + 1) (if c = last then run + 1 else 1) c := by
  have h1 := (h.append [c]).next (by simp)
  rw [rd_last] at h1
  exact h1
/-- Five equal letters stand last, or not: what is compared, one behind the other. -/
theorem Trail.five {l : List Int} {n run : Nat} {last : Int} (h : Trail l n run last) (h5 : run ≤ 5) (hn : 5 ≤ n) :
    (run = 5 ↔ (rd l ((n - 1 : Nat) : Int) = rd l ((n - 2 : Nat) : Int) ∧ rd l ((n - 2 : Nat) : Int) = rd l ((n - 3 : Nat) : Int) ∧ rd l ((n - 3 : Nat) : Int) = rd l ((n - 4 : Nat) : Int) ∧ rd l ((n - 4 : Nat) : Int) = rd l ((n - 5 : Nat) : Int))) := by
  have hp := h.pos (by omega)
  have e1 := h.same (n - 1) (by omega) (by omega)
  constructor
  · intro e
    subst e
    have e2 := h.same (n - 2) (by omega) (by omega)
    have e3 := h.same (n - 3) (by omega) (by omega)
    have e4 := h.same (n - 4) (by omega) (by omega)
    have e5 := h.same (n - 5) (by omega) (by omega)
    rw [e1, e2, e3, e4, e5]
    exact ⟨rfl, rfl, rfl, rfl⟩
  · rintro ⟨a1, a2, a3, a4⟩
    rcases Nat.lt_or_ge run 5 with hlt | hge
    · exfalso
      have ho := h.other (by omega)
      have hc : run = 1 ∨ run = 2 ∨ run = 3 ∨ run = 4 := by omega
      rcases hc with rfl | rfl | rfl | rfl
      · exact ho (by rw [show n - 1 - 1 = n - 2 by omega, ← a1, e1])
      · exact ho (by rw [show n - 2 - 1 = n - 3 by omega, ← a2, ← a1, e1])
      · exact ho (by rw [show n - 3 - 1 = n - 4 by omega, ← a3, ← a2, ← a1, e1])
      · exact ho (by rw [show n - 4 - 1 = n - 5 by omega, ← a4, ← a3, ← a2, ← a1, e1])
    · omega
end Go.Proofs.Ytogedkkdhonmlaa.P

namespace Go.Proofs.Ytogedkkdhonmlaa.P
open Go Go.RowKit Go.Proofs.YtogedkkdhonmlaaW.PrintWords
set_option linter.unusedVariables false
theorem due_eq {l : List Int} {n run : Nat} {last : Int} (h : Trail l n run last) (h5 : run ≤ 5) (hn : n < 100000000) : spec_l1due.f l (n : Int) = some (decide (run = 5)) := by
  have hle := h.le
  have hr := h.run_le
  unfold spec_l1due.f
  by_cases c : n < 5
  · rw [if_pos (by omega), decide_eq_false (by omega)]
  · have hf := h.five h5 (by omega)
    have w1 : wrap64 ((n : Int) - 1) = ((n - 1 : Nat) : Int) := by unfold wrap64; omega
    have w2 : wrap64 ((n : Int) - 2) = ((n - 2 : Nat) : Int) := by unfold wrap64; omega
    have w3 : wrap64 ((n : Int) - 3) = ((n - 3 : Nat) : Int) := by unfold wrap64; omega
    have w4 : wrap64 ((n : Int) - 4) = ((n - 4 : Nat) : Int) := by unfold wrap64; omega
    have w5 : wrap64 ((n : Int) - 5) = ((n - 5 : Nat) : Int) := by unfold wrap64; omega
    rw [if_neg (by omega), w1, w2, w3, w4, w5, if_pos (by omega), if_pos (by omega), if_pos (by omega), if_pos (by omega)]
    by_cases a1 : rd l ((n - 1 : Nat) : Int) = rd l ((n - 2 : Nat) : Int)
    · rw [if_pos a1, if_pos (by omega), if_pos (by omega)]
      by_cases a2 : rd l ((n - 2 : Nat) : Int) = rd l ((n - 3 : Nat) : Int)
      · rw [if_pos a2, if_pos (by omega), if_pos (by omega)]
        by_cases a3 : rd l ((n - 3 : Nat) : Int) = rd l ((n - 4 : Nat) : Int)
        · rw [if_pos a3, if_pos (by omega), if_pos (by omega)]
          by_cases a4 : rd l ((n - 4 : Nat) : Int) = rd l ((n - 5 : Nat) : Int)
          · rw [decide_eq_true (hf.2 ⟨a1, a2, a3, a4⟩), a4]; simp
          · rw [decide_eq_false (fun e => a4 (hf.1 e).2.2.2)]; simp [a4]
        · rw [if_neg a3, decide_eq_false (fun e => a3 (hf.1 e).2.2.1)]
      · rw [if_neg a2, decide_eq_false (fun e => a2 (hf.1 e).2.1)]
    · rw [if_neg a1, decide_eq_false (fun e => a1 (hf.1 e).1)]
end Go.Proofs.Ytogedkkdhonmlaa.P

namespace Go.Proofs.Ytogedkkdhonmlaa.P
open Go Go.RowKit Go.Proofs.YtogedkkdhonmlaaW.PrintWords
set_option linter.unusedVariables false
/-! ### Letters of a text; the reference's look at them -/
theorem bt_eq (s : ByteArray) (i : Nat) (h : i < s.size) : bt s (i : Int) = ((s[i]'h).toNat : Int) := by
  unfold bt; rw [dif_pos (show (i : Int).toNat < s.size from h)]; rfl
theorem bytesOf_get (s : ByteArray) (i : Nat) (h : i < (bytesOf s).length) : (bytesOf s)[i]'h = bt s (i : Int) := by
  have hs : i < s.size := by rw [bytesOf_length] at h; exact h
  have h2 : (bytesOf s)[i]? = some (bt s (i : Int)) := by
    unfold bytesOf
    rw [List.getElem?_map, Array.getElem?_toList, Array.getElem?_eq_getElem (show i < s.data.size from hs), bt_eq s i hs]
    rfl
  rw [List.getElem?_eq_getElem h] at h2
  exact Option.some.inj h2
theorem okBits_ev (s : ByteArray) (lim : Nat) (hlim : lim < 100000000) :
    Ev (fun k => spec_l1okBits.f k s (lim : Int)) (decide (s.size ≤ lim) && isBits s) := by
  have loop : s.size ≤ lim → ∀ (d i : Nat), i + d = s.size → BitsTo s i → Ev (fun k => spec_l1okBits.l0 k s (i : Int)) (isBits s) := by
    intro hl d
    induction d with
    | zero =>
      intro i hi hb
      refine Ev.step (f := fun _ => some (isBits s)) (fun k => ?_) (Ev.now _)
      simp only [spec_l1okBits.l0]
      rw [if_neg (by omega), isBits_of s hb (by omega)]
    | succ d ih =>
      intro i hi hb
      have hp : i < s.size := by omega
      cases hbit : isBit (s[i]'hp) with
      | true =>
        refine Ev.step (f := fun k => spec_l1okBits.l0 k s ((i + 1 : Nat) : Int)) (fun k => ?_) (ih (i + 1) (by omega) (bitsTo_succ hb hp hbit))
        simp only [spec_l1okBits.l0]
        rw [if_pos (by omega), if_pos (by omega), bt_eq s i hp, w64 (by omega) (by omega)]
        rcases isBit_cases hbit with e | e <;> rw [e]
        · rw [if_pos (by decide)]; rfl
        · rw [if_neg (by decide), if_pos (by decide)]; rfl
      | false =>
        refine Ev.step (f := fun _ => some (isBits s)) (fun k => ?_) (Ev.now _)
        simp only [spec_l1okBits.l0]
        obtain ⟨h1, h2⟩ := not_bit hbit
        rw [if_pos (by omega), if_pos (by omega), bt_eq s i hp, if_neg (by omega), if_neg (by omega), isBits_not s hp hbit]
  by_cases c : s.size ≤ lim
  · rw [decide_eq_true c, Bool.true_and]
    refine Ev.congr (fun k => ?_) (loop c s.size 0 (by omega) (bitsTo_zero s))
    unfold spec_l1okBits.f
    rw [if_neg (by omega)]; rfl
  · rw [decide_eq_false c, Bool.false_and]
    refine Ev.congr (f := fun _ => some false) (fun k => ?_) (Ev.now _)
    unfold spec_l1okBits.f
    rw [if_pos (by omega)]
end Go.Proofs.Ytogedkkdhonmlaa.P

namespace Go.Proofs.Ytogedkkdhonmlaa.P
open Go Go.RowKit Go.Proofs.YtogedkkdhonmlaaW.PrintWords
set_option linter.unusedVariables false
/-- What Stuff says of a text. -/
def stuffV (s : ByteArray) : ByteArray := if s.size ≤ 2000 ∧ isBits s = true then strOfNums (stuffL (bytesOf s)) else ⟨#[]⟩
structure StuffOk (st : List Int × Int × Int) (run : Nat) : Prop where
  trail : Trail st.1 st.1.length run st.2.2
  run_eq : st.2.1 = (run : Int)
  run_le : run ≤ 4
theorem StuffOk.zero : StuffOk ([], 0, 120) 0 := ⟨Trail.zero _ _, rfl, by omega⟩
theorem StuffOk.step {st : List Int × Int × Int} {run : Nat} (h : StuffOk st run) (c : Int) (hc : c = 48 ∨ c = 49) :
    (stuffStep st c).1 = (if (if c = st.2.2 then run + 1 else 1) = 5 then st.1 ++ [c] ++ [97 - c] else st.1 ++ [c]) ∧ ∃ run', StuffOk (stuffStep st c) run' := by
  obtain ⟨ht, he, hl⟩ := h
  have hs := ht.snoc c
  have e1 : (if c = st.2.2 then st.2.1 + 1 else 1) = (((if c = st.2.2 then run + 1 else 1 : Nat)) : Int) := by split <;> omega
  have h5 : (if c = st.2.2 then run + 1 else 1 : Nat) ≤ 5 := by split <;> omega
  unfold stuffStep
  rw [e1]
  generalize (if c = st.2.2 then run + 1 else 1 : Nat) = q at *
  by_cases h : q = 5
  · rw [if_pos (by omega), if_pos h]
    refine ⟨rfl, 1, ?_, rfl, by omega⟩
    have hs2 : Trail (st.1 ++ [c]) (st.1 ++ [c]).length q c := by rw [List.length_append]; exact hs
    have h3 := hs2.snoc (97 - c)
    rw [if_neg (by omega)] at h3
    simp only []
    rw [List.length_append]
    exact h3
  · rw [if_neg (by omega), if_neg h]
    refine ⟨rfl, q, ?_, rfl, by omega⟩
    simp only []
    rw [List.length_append]
    exact hs
theorem specStuff_ev (s : ByteArray) (h : s.size < 100000000) : Ev (fun k => spec_Stuff.f k s) (stuffV s) := by
  have hk := okBits_ev s 2000 (by omega)
  unfold stuffV
  by_cases c : s.size ≤ 2000 ∧ isBits s = true
  · rw [if_pos c]
    obtain ⟨hs, hb⟩ := c
    rw [hb, decide_eq_true hs] at hk
    refine Ev.congr (fun k => by unfold spec_Stuff.f; rfl) (Ev.bind hk (ev_pos rfl ?_))
    have loop : ∀ (d i run : Nat), i + d = s.size → StuffOk (stuffTo s i) run → Ev (fun k => spec_Stuff.l0 k s (stuffTo s i).1 (i : Int)) (strOfNums (stuffL (bytesOf s))) := by
      intro d
      induction d with
      | zero =>
        intro i run hi _
        refine Ev.step (f := fun _ => some (strOfNums (stuffL (bytesOf s)))) (fun k => ?_) (Ev.now _)
        simp only [spec_Stuff.l0]
        rw [if_neg (by omega), stuffTo_end s i (by omega)]
      | succ d ih =>
        intro i run hi ho
        have his : i < s.size := by omega
        have hbit := isBit_cases (isBits_at hb his)
        obtain ⟨b, hbe, hb2⟩ : ∃ b : Nat, (s[i]'his).toNat = b ∧ (b = 48 ∨ b = 49) := ⟨_, rfl, by rcases hbit with e | e <;> rw [e] <;> decide⟩
        have hbt : bt s (i : Int) = (b : Int) := by rw [bt_eq s i his, hbe]
        have hst := stuffTo_succ s i his hbe
        have hbd := (stuffTo_bounds s i).1
        have htr := ho.trail.snoc (b : Int)
        have hrl := ho.run_le
        obtain ⟨h1, run', h2⟩ := ho.step (b : Int) (by omega)
        rw [← hst] at h1 h2
        refine Ev.step (f := fun k => spec_Stuff.l0 k s (stuffTo s (i + 1)).1 ((i + 1 : Nat) : Int)) (fun k => ?_) (ih (i + 1) run' (by omega) h2)
        have hdue := due_eq (n := (stuffTo s i).1.length + 1) htr (by split <;> omega) (by omega)
        have hln : (((stuffTo s i).1 ++ [(b : Int)]).length : Int) = (((stuffTo s i).1.length + 1 : Nat) : Int) := by rw [List.length_append]; rfl
        simp only [spec_Stuff.l0]
        rw [if_pos (by omega), if_pos (by omega), if_pos (by omega), hbt, Option.bind_some, hln, hdue, Option.bind_some, w64 (by omega) (by omega), h1]
        by_cases h5 : (if (b : Int) = (stuffTo s i).2.2 then run + 1 else 1) = 5
        · rw [decide_eq_true h5, if_pos rfl, if_pos h5]
          have ho2 : spec_l1other.f (b : Int) = some (97 - (b : Int)) := by
            unfold spec_l1other.f
            rcases hb2 with rfl | rfl <;> rfl
          rw [ho2, Option.bind_some, if_pos (by omega)]
          rfl
        · rw [decide_eq_false h5, if_neg (by decide), if_neg h5]
          rfl
    have h0 := loop s.size 0 0 (by omega) (by rw [stuffTo_zero]; exact StuffOk.zero)
    rw [stuffTo_zero] at h0
    exact h0
  · rw [if_neg c]
    have hf : (decide (s.size ≤ 2000) && isBits s) = false := by
      rw [Bool.and_eq_false_iff]
      by_cases hh : isBits s = true
      · exact .inl (decide_eq_false fun h2 => c ⟨h2, hh⟩)
      · exact .inr (by simpa using hh)
    rw [hf] at hk
    exact Ev.congr (fun k => by unfold spec_Stuff.f; rfl) (Ev.bind hk (ev_neg (show ¬ (false = true) by decide) (Ev.now _)))
end Go.Proofs.Ytogedkkdhonmlaa.P

namespace Go.Proofs.Ytogedkkdhonmlaa.P
open Go Go.RowKit Go.Proofs.YtogedkkdhonmlaaW.PrintWords
set_option linter.unusedVariables false
/-! ### spec.Crc15 is the register's sum -/
theorem b2_xor (a b : Bool) : bits .xor .u8 (b2 a) (b2 b) = b2 (a ^^ b) := by cases a <;> cases b <;> decide
theorem gtext (j : Nat) (h : j < 16) : (bt (⟨#[49, 49, 48, 48, 48, 49, 48, 49, 49, 48, 48, 49, 49, 48, 48, 49]⟩ : ByteArray) (j : Int) - 48) % 256 = b2 (Nat.testBit 50585 (15 - j)) := by
  have : ∀ j : Fin 16, (bt (⟨#[49, 49, 48, 48, 48, 49, 48, 49, 49, 48, 48, 49, 49, 48, 48, 49]⟩ : ByteArray) ((j.val : Nat) : Int) - 48) % 256 = b2 (Nat.testBit 50585 (15 - j.val)) := by decide +kernel
  exact this ⟨j, h⟩
/-- What the list holds at the head of the division's round i: letter by letter. -/
def phi (s : ByteArray) (i t : Nat) : Bool := (decide (t < i + 15) && (crcL ((bytesOf s).take i)).testBit (14 - (t - i))) ^^ (decide (t < s.size) && bitB (bt s (t : Int)))
def Holds (v : List Int) (n : Nat) (from_ : Nat) (φ : Nat → Bool) : Prop := v.length = n ∧ ∀ t, from_ ≤ t → t < n → rd v (t : Int) = b2 (φ t)
set_option linter.unusedSectionVars false
section
variable (s : ByteArray) (hs : s.size ≤ 2000) (hb : isBits s = true)
include hs hb
omit hs in
theorem bit_at (t : Nat) (ht : t < s.size) : bt s (t : Int) = 48 ∨ bt s (t : Int) = 49 := by
  rw [bt_eq s t ht]
  rcases isBit_cases (isBits_at hb ht) with e | e <;> rw [e]
  · exact .inl rfl
  · exact .inr rfl
omit hs hb in
theorem phi_step (i t : Nat) (hi : i < s.size) (ht : i + 1 ≤ t) (ht2 : t < s.size + 15) :
    phi s (i + 1) t = (phi s i t ^^ (phi s i i && decide (t < i + 16) && Nat.testBit 50585 (15 - (t - i)))) := by
  have hl : i < (bytesOf s).length := by rw [bytesOf_length]; exact hi
  have h1 : crcL ((bytesOf s).take (i + 1)) = crcN (crcL ((bytesOf s).take i)) (bitN (bt s (i : Int))) := by
    rw [List.take_succ_eq_append_getElem hl, crcL_snoc, bytesOf_get]
  have hb1 : bitN (bt s (i : Int)) ≤ 1 := by unfold bitN; split <;> omega
  have hbd : decide (bitN (bt s (i : Int)) = 1) = bitB (bt s (i : Int)) := by unfold bitN bitB; split <;> simp [*]
  unfold phi
  rw [h1]
  have hR : crcL ((bytesOf s).take i) < 32768 := crcL_lt _
  generalize crcL ((bytesOf s).take i) = R at *
  rw [decide_eq_true (show i < i + 15 by omega), decide_eq_true hi, Nat.sub_self, Bool.true_and, Bool.true_and]
  by_cases h : t < i + 16
  · obtain ⟨j, hj, hj15⟩ : ∃ j, t = i + 15 - j ∧ j < 15 := ⟨i + 15 - t, by omega, by omega⟩
    subst hj
    rw [show 14 - (i + 15 - j - (i + 1)) = j by omega, crcN_testBit R _ hR hb1 j hj15, hbd, show 15 - (i + 15 - j - i) = j by omega, decide_eq_true (show i + 15 - j < i + 1 + 15 by omega)]
    have hg : Nat.testBit 50585 j = Nat.testBit 17817 j := by
      have : ∀ j : Fin 15, Nat.testBit 50585 j.val = Nat.testBit 17817 j.val := by decide
      exact this ⟨j, hj15⟩
    rw [hg]
    by_cases h0 : 0 < j
    · rw [decide_eq_true h0, decide_eq_true (show i + 15 - j < i + 15 by omega), show 14 - (i + 15 - j - i) = j - 1 by omega]
      simp only [Bool.true_and, Bool.and_true]
      cases R.testBit (j - 1) <;> cases R.testBit 14 <;> cases bitB (bt s (i : Int)) <;> cases Nat.testBit 17817 j <;> simp
    · rw [decide_eq_false h0, decide_eq_false (show ¬ i + 15 - j < i + 15 by omega)]
      simp only [Bool.true_and, Bool.and_true, Bool.false_and]
      cases R.testBit 14 <;> cases bitB (bt s (i : Int)) <;> cases Nat.testBit 17817 j <;> simp
  · rw [decide_eq_false (show ¬ t < i + 1 + 15 by omega), decide_eq_false (show ¬ t < i + 15 by omega)]
    simp
theorem l4_ev (v : List Int) (R : Nat) (hR : R < 32768) (hv : Holds v (s.size + 15) s.size (fun t => R.testBit (14 - (t - s.size)))) :
    ∀ (d j : Nat), j + d = 15 → Ev (fun k => spec_Crc15.l4 k v ((R >>> (15 - j) : Nat) : Int) ((s.size + j : Nat) : Int)) (R : Int) := by
  obtain ⟨hl, hv⟩ := hv
  intro d
  induction d with
  | zero =>
    intro j hj
    refine Ev.step (f := fun _ => some (R : Int)) (fun k => ?_) (Ev.now _)
    simp only [spec_Crc15.l4]
    rw [if_neg (by omega), show 15 - j = 0 by omega, Nat.shiftRight_zero]
  | succ d ih =>
    intro j hj
    refine Ev.step (f := fun k => spec_Crc15.l4 k v ((R >>> (15 - (j + 1)) : Nat) : Int) ((s.size + (j + 1) : Nat) : Int)) (fun k => ?_) (ih (j + 1) (by omega))
    have hb0 : (R >>> (15 - j)) < 32768 := Nat.lt_of_le_of_lt (Nat.shiftRight_le _ _) hR
    have hx : R >>> (15 - (j + 1)) = 2 * (R >>> (15 - j)) + (R.testBit (14 - j)).toNat := by
      have e : 15 - j = (14 - j) + 1 := by omega
      rw [show 15 - (j + 1) = 14 - j by omega, e, Nat.shiftRight_succ, Nat.testBit_eq_decide_div_mod_eq, Nat.shiftRight_eq_div_pow]
      generalize R / 2 ^ (14 - j) = q
      by_cases h : q % 2 = 1
      · rw [decide_eq_true h]; simp; omega
      · rw [decide_eq_false h]; simp; omega
    have hr : rd v ((s.size + j : Nat) : Int) = (((R.testBit (14 - j)).toNat : Nat) : Int) := by
      rw [hv (s.size + j) (by omega) (by omega)]; dsimp only; rw [show s.size + j - s.size = j by omega]
      unfold b2
      cases R.testBit (14 - j) <;> rfl
    have ht : (R.testBit (14 - j)).toNat ≤ 1 := Bool.toNat_le _
    simp only [spec_Crc15.l4]
    rw [if_pos (by omega), if_pos (by omega), hr, w64 (x := 2 * _) (by omega) (by omega), w64 (x := (((R.testBit (14 - j)).toNat : Nat) : Int)) (by omega) (by omega), w64 (by omega) (by omega), w64 (by omega) (by omega), hx]
    push_cast
    rfl
theorem l3_ev (i : Nat) (hi : i < s.size) (φ : Nat → Bool) (r : Int)
    (next : ∀ v, Holds v (s.size + 15) (i + 1) (fun t => φ t ^^ (decide (t < i + 16) && Nat.testBit 50585 (15 - (t - i)))) → Ev (fun k => spec_Crc15.l2 k v (⟨#[49, 49, 48, 48, 48, 49, 48, 49, 49, 48, 48, 49, 49, 48, 48, 49]⟩ : ByteArray) ((i + 1 : Nat) : Int)) r) :
    ∀ (d j : Nat) (v : List Int), j + d = 16 → Holds v (s.size + 15) i (fun t => φ t ^^ (decide (t < i + j) && Nat.testBit 50585 (15 - (t - i)))) → Ev (fun k => spec_Crc15.l3 k v (⟨#[49, 49, 48, 48, 48, 49, 48, 49, 49, 48, 48, 49, 49, 48, 48, 49]⟩ : ByteArray) (i : Int) (j : Int)) r := by
  intro d
  induction d with
  | zero =>
    intro j v hj hv
    obtain rfl : j = 16 := by omega
    refine Ev.step (f := fun k => spec_Crc15.l2 k v (⟨#[49, 49, 48, 48, 48, 49, 48, 49, 49, 48, 48, 49, 49, 48, 48, 49]⟩ : ByteArray) ((i + 1 : Nat) : Int)) (fun k => ?_) (next v ⟨hv.1, fun t h1 h2 => hv.2 t (by omega) h2⟩)
    simp only [spec_Crc15.l3]
    rw [if_neg (by omega), w64 (by omega) (by omega)]
    rfl
  | succ d ih =>
    intro j v hj hv
    obtain ⟨hl, hv⟩ := hv
    have hg := gtext j (by omega)
    have hx : bits .xor .u8 (rd v ((i + j : Nat) : Int)) (b2 (Nat.testBit 50585 (15 - j))) = b2 (φ (i + j) ^^ Nat.testBit 50585 (15 - j)) := by
      rw [hv (i + j) (by omega) (by omega)]; dsimp only; rw [decide_eq_false (show ¬ i + j < i + j by omega), Bool.false_and, Bool.xor_false, b2_xor]
    refine Ev.step (f := fun k => spec_Crc15.l3 k (v.set (i + j) (b2 (φ (i + j) ^^ Nat.testBit 50585 (15 - j)))) (⟨#[49, 49, 48, 48, 48, 49, 48, 49, 49, 48, 48, 49, 49, 48, 48, 49]⟩ : ByteArray) (i : Int) ((j + 1 : Nat) : Int)) (fun k => ?_) (ih (j + 1) _ (by omega) ⟨by rw [List.length_set]; exact hl, fun t h1 h2 => ?_⟩)
    · simp only [spec_Crc15.l3]
      rw [w64 (x := (i : Int) + (j : Int)) (by omega) (by omega), show (i : Int) + (j : Int) = ((i + j : Nat) : Int) by omega, if_pos (by omega), if_pos (by omega), if_pos (by omega), if_pos (by omega), if_pos (by rw [show (ByteArray.size _ : Nat) = 16 from rfl]; omega), hg, hx, w64 (by omega) (by omega)]
      rfl
    · rw [rd_set v (i + j) _ t (by omega)]
      by_cases e : t = i + j
      · subst e
        rw [if_pos rfl]; dsimp only; rw [decide_eq_true (show i + j < i + (j + 1) by omega), Bool.true_and, show i + j - i = j by omega]
      · rw [if_neg e, hv t h1 h2]
        dsimp only
        rw [show decide (t < i + j) = decide (t < i + (j + 1)) from decide_eq_decide.2 ⟨fun _ => by omega, fun _ => by omega⟩]
theorem l2_ev : ∀ (d i : Nat) (v : List Int), i + d = s.size → Holds v (s.size + 15) i (phi s i) → Ev (fun k => spec_Crc15.l2 k v (⟨#[49, 49, 48, 48, 48, 49, 48, 49, 49, 48, 48, 49, 49, 48, 48, 49]⟩ : ByteArray) (i : Int)) (crcL (bytesOf s) : Int) := by
  intro d
  induction d with
  | zero =>
    intro i v hi hv
    obtain rfl : i = s.size := by omega
    have h4 := l4_ev s hs hb (v := v) (crcL (bytesOf s)) (crcL_lt _) ⟨hv.1, fun t h1 h2 => by
      rw [hv.2 t h1 h2]; unfold phi; dsimp only
      rw [decide_eq_false (show ¬ t < s.size by omega), decide_eq_true (show t < s.size + 15 by omega), List.take_of_length_le (by rw [bytesOf_length]; omega)]; simp⟩ 15 0 (by omega)
    refine Ev.step (f := fun k => spec_Crc15.l4 k v ((crcL (bytesOf s) >>> (15 - 0) : Nat) : Int) ((s.size + 0 : Nat) : Int)) (fun k => ?_) h4
    have hz : crcL (bytesOf s) >>> (15 - 0) = 0 := by rw [Nat.shiftRight_eq_div_pow]; have := crcL_lt (bytesOf s); omega
    have hl := hv.1
    simp only [spec_Crc15.l2]
    rw [w64 (by omega) (by omega), if_neg (by omega), hz, hl, w64 (by omega) (by omega), show ((s.size + 15 : Nat) : Int) - 15 = ((s.size + 0 : Nat) : Int) by omega]
    rfl
  | succ d ih =>
    intro i v hi hv
    have hl := hv.1
    have his : i < s.size := by omega
    have hr : rd v (i : Int) = b2 (phi s i i) := hv.2 i (by omega) (by omega)
    cases hp : phi s i i with
    | true =>
      refine Ev.step (f := fun k => spec_Crc15.l3 k v (⟨#[49, 49, 48, 48, 48, 49, 48, 49, 49, 48, 48, 49, 49, 48, 48, 49]⟩ : ByteArray) (i : Int) ((0 : Nat) : Int)) (fun k => ?_) (l3_ev s hs hb i his (phi s i) _ (fun v' hv' => ih (i + 1) v' (by omega) ⟨hv'.1, fun t h1 h2 => ?_⟩) 16 0 v (by omega) ⟨hl, fun t h1 h2 => ?_⟩)
      · simp only [spec_Crc15.l2]
        rw [w64 (by omega) (by omega), if_pos (by omega), if_pos (by omega), if_pos (by omega), hr, hp, if_pos (show b2 true = 1 from rfl)]
        rfl
      · rw [hv'.2 t h1 h2]; dsimp only; rw [phi_step s i t his h1 h2, hp, Bool.true_and]
      · rw [hv.2 t h1 h2]; dsimp only; rw [decide_eq_false (show ¬ t < i + 0 by omega), Bool.false_and, Bool.xor_false]
    | false =>
      refine Ev.step (f := fun k => spec_Crc15.l2 k v (⟨#[49, 49, 48, 48, 48, 49, 48, 49, 49, 48, 48, 49, 49, 48, 48, 49]⟩ : ByteArray) ((i + 1 : Nat) : Int)) (fun k => ?_) (ih (i + 1) v (by omega) ⟨hl, fun t h1 h2 => ?_⟩)
      · simp only [spec_Crc15.l2]
        rw [w64 (x := (i : Int) + 15) (by omega) (by omega), if_pos (by omega), if_pos (by omega), if_pos (by omega), hr, hp, if_neg (by decide), w64 (by omega) (by omega)]
        rfl
      · rw [hv.2 t (by omega) h2, phi_step s i t his h1 h2, hp]; simp
theorem l1_ev (φ : Nat → Bool) (hφ : ∀ t, s.size ≤ t → φ t = false) (r : Int) (next : ∀ v, Holds v (s.size + 15) 0 φ → Ev (fun k => spec_Crc15.l2 k v (⟨#[49, 49, 48, 48, 48, 49, 48, 49, 49, 48, 48, 49, 49, 48, 48, 49]⟩ : ByteArray) 0) r) :
    ∀ (d j : Nat) (v : List Int), j + d = 15 → Holds v (s.size + j) 0 φ → Ev (fun k => spec_Crc15.l1 k v (j : Int)) r := by
  intro d
  induction d with
  | zero =>
    intro j v hj hv
    obtain rfl : j = 15 := by omega
    refine Ev.step (fun k => ?_) (next v hv)
    simp only [spec_Crc15.l1]
    rw [if_neg (by omega)]
  | succ d ih =>
    intro j v hj hv
    obtain ⟨hl, hv⟩ := hv
    refine Ev.step (f := fun k => spec_Crc15.l1 k (v ++ [0]) ((j + 1 : Nat) : Int)) (fun k => ?_) (ih (j + 1) _ (by omega) ⟨by rw [List.length_append, hl]; simp; omega, fun t h1 h2 => ?_⟩)
    · simp only [spec_Crc15.l1]
      rw [if_pos (by omega), if_pos (by omega), w64 (by omega) (by omega)]
      rfl
    · rw [rd_snoc]
      by_cases h : t < v.length
      · rw [if_pos h, hv t h1 (by omega)]
      · rw [if_neg h, if_pos (by omega), hφ t (by omega)]; rfl
theorem l0_ev (r : Int) (next : ∀ v, Holds v s.size 0 (fun t => decide (t < s.size) && bitB (bt s (t : Int))) → Ev (fun k => spec_Crc15.l1 k v 0) r) :
    ∀ (d i : Nat) (v : List Int), i + d = s.size → Holds v i 0 (fun t => decide (t < s.size) && bitB (bt s (t : Int))) → Ev (fun k => spec_Crc15.l0 k s v (i : Int)) r := by
  intro d
  induction d with
  | zero =>
    intro i v hi hv
    obtain rfl : i = s.size := by omega
    refine Ev.step (fun k => ?_) (next v hv)
    simp only [spec_Crc15.l0]
    rw [if_neg (by omega)]
  | succ d ih =>
    intro i v hi hv
    obtain ⟨hl, hv⟩ := hv
    have hx : (bt s (i : Int) - 48) % 256 = b2 (bitB (bt s (i : Int))) := by
      rcases bit_at s hb i (by omega) with e | e <;> rw [e] <;> decide
    refine Ev.step (f := fun k => spec_Crc15.l0 k s (v ++ [b2 (bitB (bt s (i : Int)))]) ((i + 1 : Nat) : Int)) (fun k => ?_) (ih (i + 1) _ (by omega) ⟨by rw [List.length_append, hl]; rfl, fun t h1 h2 => ?_⟩)
    · simp only [spec_Crc15.l0]
      rw [if_pos (by omega), if_pos (by omega), if_pos (by omega), w64 (by omega) (by omega), hx]
      rfl
    · rw [rd_snoc]
      by_cases h : t < v.length
      · rw [if_pos h, hv t h1 (by omega)]
      · obtain rfl : t = i := by omega
        rw [if_neg h, if_pos hl.symm]; dsimp only; rw [decide_eq_true (show t < s.size by omega), Bool.true_and]
end
/-- What Crc15 says of a text. -/
def crcV (s : ByteArray) : Int := if s.size ≤ 2000 ∧ isBits s = true then (crcL (bytesOf s) : Int) else -1
theorem specCrc15_ev (s : ByteArray) (h : s.size < 100000000) : Ev (fun k => spec_Crc15.f k s) (crcV s) := by
  have hk := okBits_ev s 2000 (by omega)
  unfold crcV
  by_cases c : s.size ≤ 2000 ∧ isBits s = true
  · rw [if_pos c]
    rw [c.2, decide_eq_true c.1] at hk
    refine Ev.congr (fun k => rfl) (Ev.bind (f := fun k t => if t = true then spec_Crc15.l0 k s ([] : List Int) 0 else some (-1)) hk ?_)
    simp only [Bool.and_self, if_true]
    refine l0_ev s c.1 c.2 _ (fun v hv => l1_ev s c.1 c.2 _ (fun t ht => by rw [decide_eq_false (by omega)]; rfl) _ (fun v' hv' => l2_ev s c.1 c.2 s.size 0 v' (by omega) ⟨hv'.1, fun t h1 h2 => ?_⟩) 15 0 v (by omega) hv) s.size 0 [] (by omega) ⟨rfl, fun t h1 h2 => by omega⟩
    rw [hv'.2 t h1 h2]; dsimp only; unfold phi
    rw [List.take_zero]
    simp [crcL]
  · rw [if_neg c]
    have hf : (decide (s.size ≤ 2000) && isBits s) = false := by
      rw [Bool.and_eq_false_iff]
      by_cases hh : isBits s = true
      · exact .inl (decide_eq_false fun h2 => c ⟨h2, hh⟩)
      · exact .inr (by simpa using hh)
    rw [hf] at hk
    exact Ev.congr (fun k => rfl) (Ev.bind (f := fun k t => if t = true then spec_Crc15.l0 k s ([] : List Int) 0 else some (-1)) hk (Ev.now _))
theorem crcOf_eq (s : ByteArray) (h : isBits s = true) : crcOf s = (crcL (bytesOf s) : Int) := by
  refine crcI_list _ fun c hc => ?_
  obtain ⟨i, hi, rfl⟩ := List.getElem_of_mem hc
  rw [bytesOf_get]
  exact bit_at s h i (by rw [bytesOf_length] at hi; exact hi)
end Go.Proofs.Ytogedkkdhonmlaa.P

/- Destuff of Stuff is the text, never six equal letters in a row: for whatever text was drawn. -/
namespace Go.Proofs.Ytogedkkdhonmlaa.Pure
open Go Go.RowKit Go.Proofs.Ytogedkkdhonmlaa.P Go.Proofs.YtogedkkdhonmlaaW.PrintWords Go.Proofs.YtogedkkdhonmlaaW.PrintLast
set_option linter.unusedVariables false
/-! The source -/
theorem u64_range (x : Int) : 0 ≤ IntKind.u64.wrap x ∧ IntKind.u64.wrap x < 18446744073709551616 := by rw [IntKind.wrap_u64]; omega
theorem pick_range (X a : Int) (h0 : 0 ≤ X) (h1 : X < 18446744073709551616) (ha : 1 ≤ a) (hb : a ≤ 20000000) : 0 ≤ wrap64 (Int.tmod (X / 8589934592) (IntKind.u64.wrap a)) ∧ wrap64 (Int.tmod (X / 8589934592) (IntKind.u64.wrap a)) < a := by
  rw [show IntKind.u64.wrap a = a by rw [IntKind.wrap_u64]; omega, Int.tmod_eq_emod_of_nonneg (by omega)]
  have h2 := Int.emod_nonneg (X / 8589934592) (show a ≠ 0 by omega)
  have h3 := Int.emod_lt_of_pos (X / 8589934592) (show 0 < a by omega)
  rw [w64 h2 (by omega)]
  exact ⟨h2, h3⟩
theorem n_ex (s0 : List Int) (i s a : Int) (hi : 0 ≤ i) (hi2 : i < 100000000000) (ha : 1 ≤ a) (hb : a ≤ 20000000) : ∃ v s', spec_l1src_n.f s0 i s a = some (v, i + 1, s') ∧ 0 ≤ v ∧ v < a := by
  have hw : wrap64 (i + 1) = i + 1 := by unfold wrap64; omega
  have hn : ¬ IntKind.u64.wrap a = 0 := by rw [IntKind.wrap_u64]; omega
  unfold spec_l1src_n.f
  rw [hw]
  by_cases c : i < (s0.length : Int)
  · rw [if_pos c, if_pos hi]
    by_cases c1 : a ≤ 1
    · rw [if_pos c1]; exact ⟨_, _, rfl, by omega, by omega⟩
    · rw [if_neg c1, if_neg hn]
      refine ⟨_, _, rfl, ?_⟩
      exact pick_range _ a (u64_range _).1 (u64_range _).2 ha hb
  · rw [if_neg c]
    by_cases c1 : a ≤ 1
    · rw [if_pos c1]; exact ⟨_, _, rfl, by omega, by omega⟩
    · rw [if_neg c1, if_neg hn]
      refine ⟨_, _, rfl, ?_⟩
      exact pick_range _ a (u64_range _).1 (u64_range _).2 ha hb
theorem other_ex (c : Int) : ∃ c', spec_l1other.f c = some c' := by unfold spec_l1other.f; split <;> exact ⟨_, rfl⟩
theorem gen_inner (s0 : List Int) (N K c i s : Int) (L0 : Nat) (Goal : ByteArray × Int × Int → Prop) (hN : N ≤ 20000000) (hK : K ≤ 100) (hout : ∀ x : List Int, L0 < x.length → (x.length : Int) ≤ N → ∀ c', ∃ R, Ev (fun k => spec_l1genText.l0 k N x c' s0 i s) R ∧ Goal R) :
    ∀ (m j : Nat) (x : List Int), ((j + m : Nat) : Int) = K → (x.length : Int) ≤ N → (L0 < x.length ∨ (L0 ≤ x.length ∧ (x.length : Int) < N ∧ 0 < m)) → ∃ R, Ev (fun k => spec_l1genText.l1 k N x c K (j : Int) s0 i s) R ∧ Goal R := by
  intro m
  induction m with
  | zero =>
    intro j x hj hx hl
    obtain ⟨c', hc⟩ := other_ex c
    obtain ⟨R, hR, hG⟩ := hout x (by omega) hx c'
    refine ⟨R, Ev.step (f := fun k => spec_l1genText.l0 k N x c' s0 i s) (fun k => ?_) hR, hG⟩
    simp only [spec_l1genText.l1]
    rw [if_neg (by omega), hc]
    rfl
  | succ m ih =>
    intro j x hj hx hl
    by_cases c1 : (x.length : Int) < N
    · obtain ⟨R, hR, hG⟩ := ih (j + 1) (x ++ [c]) (by omega) (by rw [List.length_append]; simp; omega) (.inl (by rw [List.length_append]; simp; omega))
      refine ⟨R, Ev.step (f := fun k => spec_l1genText.l1 k N (x ++ [c]) c K ((j + 1 : Nat) : Int) s0 i s) (fun k => ?_) hR, hG⟩
      simp only [spec_l1genText.l1]
      rw [if_pos (by omega), if_pos c1, if_pos (by omega), w64 (by omega) (by omega)]
      rfl
    · obtain ⟨c', hc⟩ := other_ex c
      obtain ⟨R, hR, hG⟩ := hout x (by omega) hx c'
      refine ⟨R, Ev.step (f := fun k => spec_l1genText.l0 k N x c' s0 i s) (fun k => ?_) hR, hG⟩
      simp only [spec_l1genText.l1]
      rw [if_pos (by omega), if_neg c1, hc]
      rfl
theorem gen_outer (s0 : List Int) (N : Int) (hN : N ≤ 20000000) : ∀ (b d : Nat) (x : List Int) (c i s : Int), d ≤ b → ((x.length + d : Nat) : Int) = N → 0 ≤ i → i + 3 * d ≤ 90000000000 → ∃ R, Ev (fun k => spec_l1genText.l0 k N x c s0 i s) R ∧ (R.1.size : Int) = N ∧ 0 ≤ R.2.1 ∧ R.2.1 ≤ i + 3 * d := by
  intro b
  induction b with
  | zero =>
    intro d x c i s hd hx hi hb
    refine ⟨(strOfNums x, i, s), Ev.step (f := fun _ => some (strOfNums x, i, s)) (fun k => ?_) (Ev.now _), by simp only []; rw [strOfNums_size]; omega, hi, by simp only []; omega⟩
    simp only [spec_l1genText.l0]
    rw [if_neg (by omega)]
  | succ b ih =>
    intro d x c i s hd hx hi hb
    by_cases c0 : d = 0
    · exact ih d x c i s (by omega) hx hi hb
    · obtain ⟨v1, s1, e1, h11, h12⟩ := n_ex s0 i s 7 hi (by omega) (by omega) (by omega)
      obtain ⟨v2, s2, e2, h21, h22⟩ := n_ex s0 (i + 1) s1 3 (by omega) (by omega) (by omega) (by omega)
      by_cases c2 : v2 > 0
      · obtain ⟨v3, s3, e3, h31, h32⟩ := n_ex s0 (i + 1 + 1) s2 2 (by omega) (by omega) (by omega) (by omega)
        obtain ⟨R, hR, hG⟩ := gen_inner s0 N (1 + v3) c (i + 1 + 1 + 1) s3 x.length (fun R => (R.1.size : Int) = N ∧ 0 ≤ R.2.1 ∧ R.2.1 ≤ i + 3 * d) hN (by omega) (fun x' hx1 hx2 c' => by
          obtain ⟨R, h1, h2, h3, h4⟩ := ih (N.toNat - x'.length) x' c' (i + 1 + 1 + 1) s3 (by omega) (by omega) (by omega) (by omega)
          exact ⟨R, h1, h2, h3, by omega⟩) (1 + v3).toNat 0 x (by omega) (by omega) (.inr ⟨Nat.le_refl _, by omega, by omega⟩)
        refine ⟨R, Ev.step (f := fun k => spec_l1genText.j1 k N x c (1 + v3) s0 (i + 1 + 1 + 1) s3) (fun k => ?_) (Ev.step (f := fun k => spec_l1genText.l1 k N x c (1 + v3) ((0 : Nat) : Int) s0 (i + 1 + 1 + 1) s3) (fun k => ?_) hR), hG⟩
        · simp only [spec_l1genText.l0]
          rw [if_pos (by omega), e1, Option.bind_some, e2, Option.bind_some, if_pos c2, e3, Option.bind_some, w64 (by omega) (by omega)]
        · simp only [spec_l1genText.j1]
          rfl
      · obtain ⟨R, hR, hG⟩ := gen_inner s0 N (1 + v1) c (i + 1 + 1) s2 x.length (fun R => (R.1.size : Int) = N ∧ 0 ≤ R.2.1 ∧ R.2.1 ≤ i + 3 * d) hN (by omega) (fun x' hx1 hx2 c' => by
          obtain ⟨R, h1, h2, h3, h4⟩ := ih (N.toNat - x'.length) x' c' (i + 1 + 1) s2 (by omega) (by omega) (by omega) (by omega)
          exact ⟨R, h1, h2, h3, by omega⟩) (1 + v1).toNat 0 x (by omega) (by omega) (.inr ⟨Nat.le_refl _, by omega, by omega⟩)
        refine ⟨R, Ev.step (f := fun k => spec_l1genText.j1 k N x c (1 + v1) s0 (i + 1 + 1) s2) (fun k => ?_) (Ev.step (f := fun k => spec_l1genText.l1 k N x c (1 + v1) ((0 : Nat) : Int) s0 (i + 1 + 1) s2) (fun k => ?_) hR), hG⟩
        · simp only [spec_l1genText.l0]
          rw [if_pos (by omega), e1, Option.bind_some, e2, Option.bind_some, if_neg c2, w64 (by omega) (by omega)]
        · simp only [spec_l1genText.j1]
          rfl
theorem gen_ex (s0 : List Int) (i s a : Int) (hi : 0 ≤ i) (hi2 : i ≤ 1000000000) (ha : 0 ≤ a) (hb : a ≤ 10000000) : ∃ R, Ev (fun k => spec_l1genText.f k s0 i s a) R ∧ (R.1.size : Int) ≤ a ∧ 0 ≤ R.2.1 ∧ R.2.1 ≤ 10000000000 := by
  obtain ⟨v, s1, e, h1, h2⟩ := n_ex s0 i s (a + 1) hi (by omega) (by omega) (by omega)
  obtain ⟨R, hR, g1, g2, g3⟩ := gen_outer s0 v (by omega) v.toNat v.toNat [] 48 (i + 1) s1 (Nat.le_refl _) (by simp; omega) (by omega) (by omega)
  refine ⟨R, ?_, by omega, g2, by omega⟩
  unfold spec_l1genText.f
  rw [w64 (x := a + 1) (by omega) (by omega)]
  exact ev_some e hR
theorem spoil_ex (s0 : List Int) (i s : Int) (t : ByteArray) (hi : 0 ≤ i) (hi2 : i ≤ 20000000000) (ht : t.size ≤ 10000000) : ∃ R, spec_l1spoil.f s0 i s t = some R ∧ R.1.size = t.size := by
  unfold spec_l1spoil.f
  by_cases c : t.size = 0
  · rw [if_pos c]; exact ⟨_, rfl, rfl⟩
  · rw [if_neg c, if_neg (by omega)]
    obtain ⟨v, s1, e, h1, h2⟩ := n_ex s0 i s (t.size : Int) hi (by omega) (by omega) (by omega)
    obtain ⟨q, s2, e2, h3, h4⟩ := n_ex s0 (i + 1) s1 4 (by omega) (by omega) (by omega) (by omega)
    rw [e, Option.bind_some, e2, Option.bind_some, if_pos ⟨h1, h2⟩]
    by_cases cq : q = 0
    · rw [if_pos cq]; exact ⟨_, rfl, by simp only []; rw [strOfNums_size, List.length_set, bytesOf_length]⟩
    · rw [if_neg cq]
      obtain ⟨c', hc⟩ := other_ex (rd (bytesOf t) v)
      rw [hc]
      exact ⟨_, rfl, by simp only []; rw [strOfNums_size, List.length_set, bytesOf_length]⟩
theorem repeat_ex (s : ByteArray) (hs : s.size ≤ 100) : ∀ (d i : Nat) (x : ByteArray), i + d = 399 → x.size ≤ i * 100 → ∃ R, Ev (fun k => spec_l1repeat.l0 k s 399 x (i : Int)) R ∧ R.size ≤ 39900 := by
  intro d
  induction d with
  | zero =>
    intro i x hi hx
    refine ⟨x, Ev.step (f := fun _ => some x) (fun k => ?_) (Ev.now _), by omega⟩
    simp only [spec_l1repeat.l0]
    rw [if_neg (by omega)]
  | succ d ih =>
    intro i x hi hx
    obtain ⟨R, hR, hz⟩ := ih (i + 1) (x ++ s) (by omega) (by rw [ByteArray.size_append]; omega)
    refine ⟨R, Ev.step (f := fun k => spec_l1repeat.l0 k s 399 (x ++ s) ((i + 1 : Nat) : Int)) (fun k => ?_) hR, hz⟩
    simp only [spec_l1repeat.l0]
    rw [if_pos (by omega), if_pos (by omega), w64 (by omega) (by omega)]
    rfl
theorem draw_ex (l : List Int) (hl : l.length ≤ 1048576) : ∃ t, Ev (fun k => spec_DrawStuff.f k l) t ∧ t.size ≤ 5000000 := by
  unfold spec_DrawStuff.f spec_l1new.f
  obtain ⟨v, s1, e, h1, h2⟩ := n_ex l 0 (IntKind.u64.wrap ((IntKind.u64.wrap ((l.length : Int))) + 77)) 10 (by omega) (by omega) (by omega) (by omega)
  by_cases c : v = 0
  · obtain ⟨R1, hR1, hz1⟩ := repeat_ex (⟨#[48, 48, 48, 48, 48]⟩ : ByteArray) (by decide) 399 0 ⟨#[]⟩ (by omega) (by decide)
    obtain ⟨R2, hR2, hz2, -, -⟩ := gen_ex l (0 + 1) s1 9 (by omega) (by omega) (by omega) (by omega)
    refine ⟨R1 ++ R2.1, ev_some rfl (ev_some e (ev_pos c (Ev.bind (g := fun k => spec_l1repeat.f k (⟨#[48, 48, 48, 48, 48]⟩ : ByteArray) 399) hR1 (Ev.bind hR2 (ev_pos (by omega) (Ev.now _)))))), by rw [ByteArray.size_append]; omega⟩
  · obtain ⟨R2, hR2, hz2, hz3, hz4⟩ := gen_ex l (0 + 1) s1 (20 + (l.length : Int)) (by omega) (by omega) (by omega) (by omega)
    obtain ⟨q, s2, e2, h3, h4⟩ := n_ex l R2.2.1 R2.2.2 6 hz3 (by omega) (by omega) (by omega)
    have hw : wrap64 (20 + (l.length : Int)) = 20 + (l.length : Int) := w64 (by omega) (by omega)
    by_cases cq : q = 0
    · obtain ⟨R3, hR3, hz5⟩ := spoil_ex l (R2.2.1 + 1) s2 R2.1 (by omega) (by omega) (by omega)
      refine ⟨R3.1, ev_some rfl (ev_some e (ev_neg c (ev_some rfl ?_))), by omega⟩
      simp only [hw]
      exact Ev.bind hR2 (ev_some e2 (ev_pos cq (ev_some hR3 (Ev.now _))))
    · refine ⟨R2.1, ev_some rfl (ev_some e (ev_neg c (ev_some rfl ?_))), by omega⟩
      simp only [hw]
      exact Ev.bind hR2 (ev_some e2 (ev_neg cq (Ev.now _)))
/-! The law -/
theorem rd_bt (s : ByteArray) (i : Nat) (h : i < s.size) : rd (bytesOf s) (i : Int) = bt s (i : Int) := by
  have hl : i < (bytesOf s).length := by rw [bytesOf_length]; exact h
  have h1 := rd_get (bytesOf s) i hl
  rw [List.getElem?_eq_getElem hl, bytesOf_get] at h1
  exact (Option.some.inj h1).symm
theorem walk_ev (t s : ByteArray) (hs : s.size ≤ 100000) (hB : Bits (bytesOf s)) (hd : impl_Destuff.f s = some (t, -1)) : ∀ (d i : Nat) (run last : Int), i + d = s.size → (i = 0 → last = 120) → (0 < i → last = bt s ((i - 1 : Nat) : Int)) → 0 ≤ run → run ≤ 5 → okWalk ((bytesOf s).drop i) run last → Ev (fun k => laws_FnStuffed.l0 k t s run (i : Int)) true := by
  intro d
  induction d with
  | zero =>
    intro i run last hi _ _ h0 h5 hw
    refine Ev.step (f := fun _ => some true) (fun k => ?_) (Ev.now _)
    simp only [laws_FnStuffed.l0]
    rw [if_neg (by omega), hd, Option.bind_some, if_pos rfl]
    rfl
  | succ d ih =>
    intro i run last hi hz hp h0 h5 hw
    have hil : i < s.size := by omega
    have hlb : i < (bytesOf s).length := by rw [bytesOf_length]; exact hil
    rw [drop_rd (bytesOf s) i hlb, okWalk] at hw
    obtain ⟨w1, w2⟩ := hw
    have hbit := hB _ (List.mem_of_getElem? (rd_get (bytesOf s) i hlb))
    have hrb := rd_bt s i hil
    have hnext : ∀ run', 0 ≤ run' → run' ≤ 5 → okWalk ((bytesOf s).drop (i + 1)) run' (rd (bytesOf s) (i : Int)) → Ev (fun k => laws_FnStuffed.l0 k t s run' ((i + 1 : Nat) : Int)) true := fun run' g0 g5 g => ih (i + 1) run' (rd (bytesOf s) (i : Int)) (by omega) (by omega) (fun _ => by rw [hrb]; rfl) g0 g5 g
    have hw1 : wrap64 ((i : Int) + 1) = ((i + 1 : Nat) : Int) := by rw [w64 (by omega) (by omega)]; rfl
    by_cases e : rd (bytesOf s) (i : Int) = last
    · rw [if_pos e] at w1 w2
      have hi0 : 0 < i := by
        rcases Nat.eq_zero_or_pos i with h | h
        · have := hz h; omega
        · exact h
      have hlast := hp hi0
      refine Ev.step (f := fun k => laws_FnStuffed.j2 k t s run (i : Int) true) (fun k => ?_) (Ev.step (f := fun k => laws_FnStuffed.l0 k t s (run + 1) ((i + 1 : Nat) : Int)) (fun k => ?_) (hnext (run + 1) (by omega) w1 w2))
      · simp only [laws_FnStuffed.l0]
        have hm : wrap64 ((i : Int) - 1) = ((i - 1 : Nat) : Int) := by rw [w64 (by omega) (by omega)]; omega
        rw [if_pos (by omega), if_pos (by omega), if_pos (by omega), hm, if_pos (by omega), if_pos (by omega), ← hlast, ← hrb, e]
        simp
      · simp only [laws_FnStuffed.j2]
        rw [if_pos trivial, w64 (x := run + 1) (by omega) (by omega), if_neg (by omega), hw1]
    · rw [if_neg e] at w1 w2
      refine Ev.step (f := fun k => laws_FnStuffed.j2 k t s run (i : Int) false) (fun k => ?_) (Ev.step (f := fun k => laws_FnStuffed.l0 k t s 1 ((i + 1 : Nat) : Int)) (fun k => ?_) (hnext 1 (by omega) (by omega) w2))
      · simp only [laws_FnStuffed.l0]
        rw [if_pos (by omega)]
        rcases Nat.eq_zero_or_pos i with h | h
        · rw [if_neg (by omega)]
        · have hm : wrap64 ((i : Int) - 1) = ((i - 1 : Nat) : Int) := by rw [w64 (by omega) (by omega)]; omega
          rw [if_pos (by omega), if_pos (by omega), hm, if_pos (by omega), if_pos (by omega), ← hp h, ← hrb]
          rw [show (rd (bytesOf s) (i : Int) == last) = false by rw [beq_eq_false_iff_ne]; exact e]
      · simp only [laws_FnStuffed.j2]
        rw [if_neg (by decide), if_neg (by omega), hw1]
theorem stuffS_len : ∀ (l : List Int) (run last : Int), (stuffS l run last).length ≤ 2 * l.length := by
  intro l
  induction l with
  | nil => intro run last; simp [stuffS]
  | cons c l ih =>
    intro run last
    rw [stuffS]
    by_cases e : (if c = last then run + 1 else 1) = 5
    · rw [if_pos e, List.length_cons, List.length_cons, List.length_cons]
      have := ih 1 (97 - c)
      omega
    · rw [if_neg e, List.length_cons, List.length_cons]
      have := ih (if c = last then run + 1 else 1) c
      omega
theorem FnStuffed : laws_FnStuffed.Pure := by
  intro l _ _ _
  refine Ev.rounds ?_
  unfold laws_FnStuffed.f
  by_cases c : (l.length : Int) > 1048576
  · exact ev_pos c (Ev.now _)
  · obtain ⟨t, hT, hz⟩ := draw_ex l (by omega)
    have hi : impl_Stuff.f t = some (stuffV t) := rfl
    refine ev_neg c (Ev.bind hT (ev_some hi (Ev.bind (specStuff_ev t (by omega)) (ev_pos rfl ?_))))
    by_cases hb : t.size ≤ 2000 ∧ isBits t = true
    · have hS : stuffV t = strOfNums (stuffL (bytesOf t)) := by unfold stuffV; rw [if_pos hb]
      have hBt := bits_bytes hb.2
      have hBs := stuffL_bits hBt
      have hlen : (stuffL (bytesOf t)).length ≤ 4000 := by
        rw [stuffL_eq]
        have := stuffS_len (bytesOf t) 0 120
        rw [bytesOf_length] at this
        omega
      have hbs : bytesOf (strOfNums (stuffL (bytesOf t))) = stuffL (bytesOf t) := bytes_str _ hBs.range
      have hd : impl_Destuff.f (strOfNums (stuffL (bytesOf t))) = some (t, -1) := by
        unfold impl_Destuff.f destuffV
        rw [if_pos ⟨by rw [strOfNums_size]; exact hlen, isBits_str hBs⟩, hbs, destuff_stuff, str_bytes]
      have hw := walk_ev t (strOfNums (stuffL (bytesOf t))) (by rw [strOfNums_size]; omega) (by rw [hbs]; exact hBs) hd (strOfNums (stuffL (bytesOf t))).size 0 0 120 (by omega) (fun _ => rfl) (fun h => absurd h (by omega)) (by omega) (by omega) (by rw [List.drop_zero, hbs, stuffL_eq]; exact okWalk_stuffS _ 0 120 (by omega) (by omega))
      rw [hS]
      have key : Ev (fun k => laws_FnStuffed.j0 k t (strOfNums (stuffL (bytesOf t))) false) true := by
        refine Ev.step (f := fun k => laws_FnStuffed.l0 k t (strOfNums (stuffL (bytesOf t))) 0 ((0 : Nat) : Int)) (fun k => ?_) hw
        simp only [laws_FnStuffed.j0]
        rw [if_neg (by decide)]
        rfl
      by_cases c0 : (t.size : Int) > 0
      · have hne : ((strOfNums (stuffL (bytesOf t))).toList == ([] : List UInt8)) = false := by
          rw [beq_eq_false_iff_ne, ByteArray.toList_eq, strOfNums_data]
          intro h
          have h1 : stuffL (bytesOf t) = [] := List.map_eq_nil_iff.1 h
          have h2 := destuff_stuff (bytesOf t)
          rw [h1] at h2
          have h3 : bytesOf t = [] := (Prod.mk.inj h2).1.symm
          have h4 := bytesOf_length t
          rw [h3] at h4
          simp at h4
          omega
        refine ev_pos c0 ?_
        rw [hne]
        exact key
      · exact ev_neg c0 key
    · have hS : stuffV t = ⟨#[]⟩ := by unfold stuffV; rw [if_neg hb]
      have c0 : (t.size : Int) > 0 := by
        rcases Nat.eq_zero_or_pos t.size with h | h
        · refine absurd ⟨by omega, ?_⟩ hb
          have h2 := bytesOf_length t
          unfold isBits
          rw [List.all_eq_true]
          intro x hx
          have h3 : t.data.toList.length = 0 := by rw [Array.length_toList]; exact h
          rw [List.length_eq_zero_iff.1 h3] at hx
          cases hx
        · omega
      rw [hS]
      refine ev_pos c0 ?_
      have hC : crcV t = -1 := by unfold crcV; rw [if_neg hb]
      have hE := specCrc15_ev t (by omega)
      rw [hC] at hE
      rw [show ((⟨#[]⟩ : ByteArray).toList == ([] : List UInt8)) = true by rw [ByteArray.toList_eq]; rfl]
      refine Ev.step (f := fun k => (spec_Crc15.f k t).bind fun t183 => some (t183 == (-1))) (fun k => ?_) (Ev.bind hE (Ev.now _))
      simp only [laws_FnStuffed.j0]
      rw [if_pos trivial]
end Go.Proofs.Ytogedkkdhonmlaa.Pure
