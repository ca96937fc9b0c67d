import Derived.Test.YtogedkkdhonmlaaProg
import Derived.Below
import Derived.Deep.Draws
import Derived.Deep.AppendLies
import Derived.Maps.AppendAt
import Derived.OwnWalk
import Derived.Laws.BytesArg
import Derived.Laws.MakeOwn
import Derived.Laws.OwnMore
import Derived.Deep.OwnRows
import Derived.Tactics
import Derived.Lib.ConvBytes
import Derived.Laws.Slices
import Derived.WalkKit
import Derived.KernelRfl
import Derived.RowKit3
import Derived.Deep.LoopGhost
import Derived.Deep.QuietTactic
import Derived.BigQuiet
import Derived.WideLaws
import Derived.Deep.DeepCutAuto
import Derived.Deep.CutBlock
import Derived.Deep.RegionHeld3
import Derived.Laws.Rows
import Derived.Lib.AppendStr
import Derived.ArgAppend
import Derived.Laws.IdiomCopy
import Derived.OrdersHeld
import Derived.Laws.BitsLemmas
import Derived.RowKit
import Derived.Test.YtogedkkdhonmlaaWWords
import Derived.Test.YtogedkkdhonmlaaWLast
import Derived.Test.YtogedkkdhonmlaaWTab
import Derived.Test.YtogedkkdhonmlaaWFour
import Derived.Test.YtogedkkdhonmlaaWQPut
import Derived.Test.YtogedkkdhonmlaaWApart
import Derived.Test.YtogedkkdhonmlaaWArr
import Derived.Test.YtogedkkdhonmlaaWZeros
import Derived.Test.YtogedkkdhonmlaaWFoot
import Derived.Test.YtogedkkdhonmlaaWKept
import Derived.Test.YtogedkkdhonmlaaWShare
import Derived.Test.YtogedkkdhonmlaaWN
import Derived.Test.YtogedkkdhonmlaaWFootNe
import Derived.Test.YtogedkkdhonmlaaWAt
import Derived.Test.YtogedkkdhonmlaaWEqStruct
import Derived.Test.YtogedkkdhonmlaaWRepsOne
import Derived.Test.YtogedkkdhonmlaaWInv
import Derived.Test.YtogedkkdhonmlaaWInvWords
import Derived.Test.YtogedkkdhonmlaaWGuard
import Derived.Test.YtogedkkdhonmlaaWNEv
import Derived.Test.YtogedkkdhonmlaaWMore
import Derived.Lib.Hide
import Derived.Laws.RangeAny
import Derived.Lib.OthersKept

namespace Go.Proofs.Ytogedkkdhonmlaa.P
open Go.RowKit Go.Proofs.YtogedkkdhonmlaaW.PrintWords Go.Proofs.YtogedkkdhonmlaaW.PrintLast Go.Proofs.YtogedkkdhonmlaaW.PrintMore
attribute [local go_sem] max2_int min2_int max_two min_two max_three min_three max_four min_four
set_option linter.unusedVariables false
set_option linter.unusedSimpArgs false

def errW : Option Int → Value
  | none => .nilIface
  | some c => .iface 0 (.int .i64 c)
theorem errW_none : errW none = .nilIface := rfl
theorem errW_some (c : Int) : errW (some c) = .iface 0 (.int .i64 c) := rfl

theorem info3 : (Try.prog.info? 3).map (fun i => (i.zero, i.size, i.bytes)) = some (some (.int .i64 0), 1, 8) := by kernel_rfl
theorem info5 : (Try.prog.info? 5).map (fun i => (i.zero, i.size, i.bytes)) = some (some (.int .u8 0), 1, 1) := by kernel_rfl
-- the values' own types

theorem info71 : (Try.prog.info? 71).map (fun i => (i.zero, i.size, i.bytes)) = some (some (.int .u64 0), 1, 8) := by kernel_rfl
end Go.Proofs.Ytogedkkdhonmlaa.P

namespace Go.Proofs.Ytogedkkdhonmlaa.P
open Go.RowKit Go.Proofs.YtogedkkdhonmlaaW.PrintWords Go.Proofs.YtogedkkdhonmlaaW.PrintLast Go.Proofs.YtogedkkdhonmlaaW.PrintMore
attribute [local go_sem] max2_int min2_int max_two min_two max_three min_three max_four min_four
set_option linter.unusedVariables false
set_option linter.unusedSimpArgs false

/-! ### spec_l1okBits: function 46 -/
def spec_l1okBits.l0 : Nat → ByteArray → Int → Option (Bool)
  | 0, _, _ => none
  | k + 1, x0, x5 => if x5 < (x0.size : Int) then (if 0 ≤ x5 then (if (bt x0 x5) = 48 then (spec_l1okBits.l0 k x0 (wrap64 (x5 + 1))) else (if (bt x0 x5) = 49 then (spec_l1okBits.l0 k x0 (wrap64 (x5 + 1))) else (some false))) else (none)) else (some true)
def spec_l1okBits.f (k : Nat) (a0 : ByteArray) (a1 : Int) : Option (Bool) := if (a0.size : Int) > a1 then (some false) else (spec_l1okBits.l0 k a0 0)
theorem spec_l1okBits.mono_l : ∀ k, (∀ y0 y1, LeO (spec_l1okBits.l0 k y0 y1) (spec_l1okBits.l0 (k + 1) y0 y1))
  | 0 => fun _ _ r h => by simp [spec_l1okBits.l0] at h
  | k + 1 => by
    have ih0 := spec_l1okBits.mono_l k
    · intro y0 y1
      unfold spec_l1okBits.l0
      repeat' first
      | (with_reducible exact ih0 _ _)
      | (with_reducible exact LeO.refl _)
      | (with_reducible exact LeO.none _)
      | (with_reducible refine LeO.ite ?_ ?_)
      | (with_reducible refine LeO.bind ?_ (fun _ => ?_))
      | exact ih0 _ _
      | exact LeO.none _
      | refine LeO.ite ?_ ?_
      | refine LeO.bind ?_ (fun _ => ?_)
theorem spec_l1okBits.mono : ∀ a0 a1 k, LeO (spec_l1okBits.f k a0 a1) (spec_l1okBits.f (k + 1) a0 a1) := by
  intro a0 a1 k
  have ih0 := spec_l1okBits.mono_l k
  unfold spec_l1okBits.f
  repeat' first
      | (with_reducible exact ih0 _ _)
      | (with_reducible exact LeO.refl _)
      | (with_reducible exact LeO.none _)
      | (with_reducible refine LeO.ite ?_ ?_)
      | (with_reducible refine LeO.bind ?_ (fun _ => ?_))
      | exact ih0 _ _
      | exact LeO.none _
      | refine LeO.ite ?_ ?_
      | refine LeO.bind ?_ (fun _ => ?_)
set_option maxHeartbeats 8000000 in
set_option maxRecDepth 100000 in
theorem spec_l1okBits.calls (k : Nat) (a0 : ByteArray) (a1 : Int) (r : Bool) (w : World) (h : spec_l1okBits.f k a0 a1 = some r) :
    Calls Try.prog 46 #[.string a0, .int .i64 a1] w fun e w' => e = .returned (.bool r) ∧ Drawn0 w w' := by
  have H : (if (a0.size : Int) > a1 then (some false) else (spec_l1okBits.l0 k a0 0)) = some r := h
  clear h
  by_cases c3 : (a0.size : Int) > a1
  · rw [if_pos c3] at H
    have c3b0 : decide (a1 < (a0.size : Int)) = true := decide_eq_true c3
    clear c3
    obtain rfl := Option.some.inj H
    go_enter Try.func46, Try.ntmps46
    go_wp2
    go_ret
    exact ⟨by first | rfl | (simp; done) | (simp [*]; done), by repeat (first | exact Drawn0.refl _ | apply Drawn0.step)⟩
  · rw [if_neg c3] at H
    have c3b0 : decide (a1 < (a0.size : Int)) = false := decide_eq_false c3
    clear c3
    have H' := Aside0.mk H
    clear H
    go_enter Try.func46, Try.ntmps46
    go_wp2
    go_loopg [5] k (fun kq v5 w' => ∃ (x5_1 : Int), v5 = .int .i64 x5_1 ∧ Aside0 (spec_l1okBits.l0 kq a0 x5_1 = some r) ∧ Aside0 (kq ≤ k) ∧ Drawn0 w w')
    case atStart => exact ⟨(0), (by first | rfl | (simp; done) | (simp [*]; done)), H', ⟨Nat.le_refl _⟩, by repeat (first | exact Drawn0.refl _ | apply Drawn0.step)⟩
    case round =>
      clear H'
      try clear p2
      try clear c3
      try clear c3b0
      obtain ⟨x5_1, rfl, HA, HK1, ⟨m1, rfl⟩⟩ := hrel
      cases gk with
      | zero => exact absurd HA.out (by simp [spec_l1okBits.l0])
      | succ k1 =>
        have H := HA.out
        clear HA
        simp only [spec_l1okBits.l0] at H
        by_cases c4 : x5_1 < (a0.size : Int)
        · rw [if_pos c4] at H
          have c4b0 : decide (x5_1 < (a0.size : Int)) = true := decide_eq_true c4
          clear c4
          by_cases c5 : 0 ≤ x5_1
          · rw [if_pos c5] at H
            have c5b0 : decide (0 ≤ x5_1) = true := decide_eq_true c5
            clear c5
            by_cases c7 : (bt a0 x5_1) = 48
            · rw [if_pos c7] at H
              have c7b0 : ((bt a0 x5_1) == 48) = true := beq_iff_eq.mpr c7
              have c7b1 : ((bt a0 x5_1) != 48) = false := bne_eq_false_iff_eq.mpr c7
              clear c7
              have H' := Aside0.mk H
              clear H
              have p6 : 0 ≤ (x5_1 : Int) := of_decide_eq_true (by first | (with_reducible assumption) | assumption)
              have q6 : x5_1 < (a0.size : Int) := of_decide_eq_true (by first | (with_reducible assumption) | assumption)
              have hx6 := bt_at a0 x5_1
              replace p6 := eq_true p6
              replace q6 := eq_true q6
              go_wp2
              go_roundg k1
              case measure => have := HK1.out; omega
              case rel => exact ⟨(wrap64 (x5_1 + 1)), (by first | rfl | (simp; done) | (simp [*]; done)), H', ⟨by have := HK1.out; omega⟩, by repeat (first | exact Drawn0.refl _ | apply Drawn0.step)⟩
            · rw [if_neg c7] at H
              have c7b0 : ((bt a0 x5_1) == 48) = false := beq_eq_false_iff_ne.mpr c7
              have c7b1 : ((bt a0 x5_1) != 48) = true := bne_iff_ne.mpr c7
              by_cases c9 : (bt a0 x5_1) = 49
              · rw [if_pos c9] at H
                have c9b0 : ((bt a0 x5_1) == 49) = true := beq_iff_eq.mpr c9
                have c9b1 : ((bt a0 x5_1) != 49) = false := bne_eq_false_iff_eq.mpr c9
                clear c9
                have H' := Aside0.mk H
                clear H
                have p6 : 0 ≤ (x5_1 : Int) := of_decide_eq_true (by first | (with_reducible assumption) | assumption)
                have q6 : x5_1 < (a0.size : Int) := of_decide_eq_true (by first | (with_reducible assumption) | assumption)
                have hx6 := bt_at a0 x5_1
                replace p6 := eq_true p6
                replace q6 := eq_true q6
                have p8 : 0 ≤ (x5_1 : Int) := of_decide_eq_true (by first | (with_reducible assumption) | assumption)
                have q8 : x5_1 < (a0.size : Int) := of_decide_eq_true (by first | (with_reducible assumption) | assumption)
                have hx8 := bt_at a0 x5_1
                replace p8 := eq_true p8
                replace q8 := eq_true q8
                go_wp2
                go_roundg k1
                case measure => have := HK1.out; omega
                case rel => exact ⟨(wrap64 (x5_1 + 1)), (by first | rfl | (simp; done) | (simp [*]; done)), H', ⟨by have := HK1.out; omega⟩, by repeat (first | exact Drawn0.refl _ | apply Drawn0.step)⟩
              · rw [if_neg c9] at H
                have c9b0 : ((bt a0 x5_1) == 49) = false := beq_eq_false_iff_ne.mpr c9
                have c9b1 : ((bt a0 x5_1) != 49) = true := bne_iff_ne.mpr c9
                obtain rfl := Option.some.inj H
                have p6 : 0 ≤ (x5_1 : Int) := of_decide_eq_true (by first | (with_reducible assumption) | assumption)
                have q6 : x5_1 < (a0.size : Int) := of_decide_eq_true (by first | (with_reducible assumption) | assumption)
                have hx6 := bt_at a0 x5_1
                replace p6 := eq_true p6
                replace q6 := eq_true q6
                have p8 : 0 ≤ (x5_1 : Int) := of_decide_eq_true (by first | (with_reducible assumption) | assumption)
                have q8 : x5_1 < (a0.size : Int) := of_decide_eq_true (by first | (with_reducible assumption) | assumption)
                have hx8 := bt_at a0 x5_1
                replace p8 := eq_true p8
                replace q8 := eq_true q8
                go_wp2
                go_ret
                exact ⟨by first | rfl | (simp; done) | (simp [*]; done), by repeat (first | exact Drawn0.refl _ | apply Drawn0.step)⟩
          · rw [if_neg c5] at H
            exact absurd H (by simp)
        · rw [if_neg c4] at H
          have c4b0 : decide (x5_1 < (a0.size : Int)) = false := decide_eq_false c4
          clear c4
          obtain rfl := Option.some.inj H
          go_wp2
          go_ret
          exact ⟨by first | rfl | (simp; done) | (simp [*]; done), by repeat (first | exact Drawn0.refl _ | apply Drawn0.step)⟩

end Go.Proofs.Ytogedkkdhonmlaa.P

namespace Go.Proofs.Ytogedkkdhonmlaa.P
open Go.RowKit Go.Proofs.YtogedkkdhonmlaaW.PrintWords Go.Proofs.YtogedkkdhonmlaaW.PrintLast Go.Proofs.YtogedkkdhonmlaaW.PrintMore
attribute [local go_sem] max2_int min2_int max_two min_two max_three min_three max_four min_four
set_option linter.unusedVariables false
set_option linter.unusedSimpArgs false

/-! ### spec_l1due: function 49 -/
def spec_l1due.f (l0 : List Int) (a1 : Int) : Option (Bool) := if a1 < 5 then (some false) else (if 0 ≤ (wrap64 (a1 - 1)) then (if (wrap64 (a1 - 1)) < (l0.length : Int) then (if 0 ≤ (wrap64 (a1 - 2)) then (if (wrap64 (a1 - 2)) < (l0.length : Int) then (if (rd l0 (wrap64 (a1 - 1))) = (rd l0 (wrap64 (a1 - 2))) then (if 0 ≤ (wrap64 (a1 - 3)) then (if (wrap64 (a1 - 3)) < (l0.length : Int) then (if (rd l0 (wrap64 (a1 - 2))) = (rd l0 (wrap64 (a1 - 3))) then (if 0 ≤ (wrap64 (a1 - 4)) then (if (wrap64 (a1 - 4)) < (l0.length : Int) then (if (rd l0 (wrap64 (a1 - 3))) = (rd l0 (wrap64 (a1 - 4))) then (if 0 ≤ (wrap64 (a1 - 5)) then (if (wrap64 (a1 - 5)) < (l0.length : Int) then (some ((rd l0 (wrap64 (a1 - 4))) == (rd l0 (wrap64 (a1 - 5))))) else (none)) else (none)) else (some false)) else (none)) else (none)) else (some false)) else (none)) else (none)) else (some false)) else (none)) else (none)) else (none)) else (none))
set_option maxHeartbeats 8000000 in
set_option maxRecDepth 100000 in
theorem spec_l1due.calls (A0 : Option Addr) (c0 : Nat) (l0 : List Int) (a1 : Int) (r : Bool) (w : World) (hr0 : Kd.C (Kd.int .u8) w A0 l0.length l0) (hc0 : l0.length ≤ c0) (h : spec_l1due.f l0 a1 = some r) :
    Calls Try.prog 49 #[.slice A0 l0.length c0, .int .i64 a1] w fun e w' => e = .returned (.bool r) ∧ Drawn0 w w' := by
  have HR0 := Aside0.mk hr0
  have HC0 := Aside0.mk hc0
  clear hr0 hc0
  have H : (if a1 < 5 then (some false) else (if 0 ≤ (wrap64 (a1 - 1)) then (if (wrap64 (a1 - 1)) < (l0.length : Int) then (if 0 ≤ (wrap64 (a1 - 2)) then (if (wrap64 (a1 - 2)) < (l0.length : Int) then (if (rd l0 (wrap64 (a1 - 1))) = (rd l0 (wrap64 (a1 - 2))) then (if 0 ≤ (wrap64 (a1 - 3)) then (if (wrap64 (a1 - 3)) < (l0.length : Int) then (if (rd l0 (wrap64 (a1 - 2))) = (rd l0 (wrap64 (a1 - 3))) then (if 0 ≤ (wrap64 (a1 - 4)) then (if (wrap64 (a1 - 4)) < (l0.length : Int) then (if (rd l0 (wrap64 (a1 - 3))) = (rd l0 (wrap64 (a1 - 4))) then (if 0 ≤ (wrap64 (a1 - 5)) then (if (wrap64 (a1 - 5)) < (l0.length : Int) then (some ((rd l0 (wrap64 (a1 - 4))) == (rd l0 (wrap64 (a1 - 5))))) else (none)) else (none)) else (some false)) else (none)) else (none)) else (some false)) else (none)) else (none)) else (some false)) else (none)) else (none)) else (none)) else (none))) = some r := h
  clear h
  by_cases c3 : a1 < 5
  · rw [if_pos c3] at H
    have c3b0 : decide (a1 < 5) = true := decide_eq_true c3
    clear c3
    obtain rfl := Option.some.inj H
    go_enter Try.func49, Try.ntmps49
    go_wp2
    repeat (go_quiet (fail); try go_wp2)
    go_ret
    exact ⟨by first | rfl | (simp; done) | (simp [*]; done), by repeat (first | exact Drawn0.refl _ | apply Drawn0.step)⟩
  · rw [if_neg c3] at H
    have c3b0 : decide (a1 < 5) = false := decide_eq_false c3
    clear c3
    obtain ⟨ji4, hji4⟩ : ∃ j_ : Int, (wrap64 (a1 - 1)) = j_ := ⟨_, rfl⟩
    replace H : (if 0 ≤ (ji4) then (if (ji4) < (l0.length : Int) then (if 0 ≤ (wrap64 (a1 - 2)) then (if (wrap64 (a1 - 2)) < (l0.length : Int) then (if (rd l0 (ji4)) = (rd l0 (wrap64 (a1 - 2))) then (if 0 ≤ (wrap64 (a1 - 3)) then (if (wrap64 (a1 - 3)) < (l0.length : Int) then (if (rd l0 (wrap64 (a1 - 2))) = (rd l0 (wrap64 (a1 - 3))) then (if 0 ≤ (wrap64 (a1 - 4)) then (if (wrap64 (a1 - 4)) < (l0.length : Int) then (if (rd l0 (wrap64 (a1 - 3))) = (rd l0 (wrap64 (a1 - 4))) then (if 0 ≤ (wrap64 (a1 - 5)) then (if (wrap64 (a1 - 5)) < (l0.length : Int) then (some ((rd l0 (wrap64 (a1 - 4))) == (rd l0 (wrap64 (a1 - 5))))) else (none)) else (none)) else (some false)) else (none)) else (none)) else (some false)) else (none)) else (none)) else (some false)) else (none)) else (none)) else (none)) else (none)) = some r := by first | (rw [hji4] at H; exact H) | (simp only [hji4] at H ⊢; exact H)
    have hji4w : (IntKind.i64.wrap (a1 - 1)) = ji4 := (i64_w _).trans hji4
    by_cases c5 : 0 ≤ (ji4)
    · rw [if_pos c5] at H
      have c5b0 : decide (0 ≤ (ji4)) = true := decide_eq_true c5
      clear c5
      by_cases c6 : (ji4) < (l0.length : Int)
      · rw [if_pos c6] at H
        have c6b0 : decide ((ji4) < (l0.length : Int)) = true := decide_eq_true c6
        clear c6
        obtain ⟨ji7, hji7⟩ : ∃ j_ : Int, (wrap64 (a1 - 2)) = j_ := ⟨_, rfl⟩
        replace H : (if 0 ≤ (ji7) then (if (ji7) < (l0.length : Int) then (if (rd l0 (ji4)) = (rd l0 (ji7)) then (if 0 ≤ (wrap64 (a1 - 3)) then (if (wrap64 (a1 - 3)) < (l0.length : Int) then (if (rd l0 (ji7)) = (rd l0 (wrap64 (a1 - 3))) then (if 0 ≤ (wrap64 (a1 - 4)) then (if (wrap64 (a1 - 4)) < (l0.length : Int) then (if (rd l0 (wrap64 (a1 - 3))) = (rd l0 (wrap64 (a1 - 4))) then (if 0 ≤ (wrap64 (a1 - 5)) then (if (wrap64 (a1 - 5)) < (l0.length : Int) then (some ((rd l0 (wrap64 (a1 - 4))) == (rd l0 (wrap64 (a1 - 5))))) else (none)) else (none)) else (some false)) else (none)) else (none)) else (some false)) else (none)) else (none)) else (some false)) else (none)) else (none)) = some r := by first | (rw [hji7] at H; exact H) | (simp only [hji7] at H ⊢; exact H)
        have hji7w : (IntKind.i64.wrap (a1 - 2)) = ji7 := (i64_w _).trans hji7
        by_cases c8 : 0 ≤ (ji7)
        · rw [if_pos c8] at H
          have c8b0 : decide (0 ≤ (ji7)) = true := decide_eq_true c8
          clear c8
          by_cases c9 : (ji7) < (l0.length : Int)
          · rw [if_pos c9] at H
            have c9b0 : decide ((ji7) < (l0.length : Int)) = true := decide_eq_true c9
            clear c9
            by_cases c10 : (rd l0 (ji4)) = (rd l0 (ji7))
            · rw [if_pos c10] at H
              have c10b0 : ((rd l0 (ji4)) == (rd l0 (ji7))) = true := beq_iff_eq.mpr c10
              have c10b1 : ((rd l0 (ji4)) != (rd l0 (ji7))) = false := bne_eq_false_iff_eq.mpr c10
              clear c10
              obtain ⟨ji11, hji11⟩ : ∃ j_ : Int, (wrap64 (a1 - 3)) = j_ := ⟨_, rfl⟩
              replace H : (if 0 ≤ (ji11) then (if (ji11) < (l0.length : Int) then (if (rd l0 (ji7)) = (rd l0 (ji11)) then (if 0 ≤ (wrap64 (a1 - 4)) then (if (wrap64 (a1 - 4)) < (l0.length : Int) then (if (rd l0 (ji11)) = (rd l0 (wrap64 (a1 - 4))) then (if 0 ≤ (wrap64 (a1 - 5)) then (if (wrap64 (a1 - 5)) < (l0.length : Int) then (some ((rd l0 (wrap64 (a1 - 4))) == (rd l0 (wrap64 (a1 - 5))))) else (none)) else (none)) else (some false)) else (none)) else (none)) else (some false)) else (none)) else (none)) = some r := by first | (rw [hji11] at H; exact H) | (simp only [hji11] at H ⊢; exact H)
              have hji11w : (IntKind.i64.wrap (a1 - 3)) = ji11 := (i64_w _).trans hji11
              by_cases c12 : 0 ≤ (ji11)
              · rw [if_pos c12] at H
                have c12b0 : decide (0 ≤ (ji11)) = true := decide_eq_true c12
                clear c12
                by_cases c13 : (ji11) < (l0.length : Int)
                · rw [if_pos c13] at H
                  have c13b0 : decide ((ji11) < (l0.length : Int)) = true := decide_eq_true c13
                  clear c13
                  by_cases c14 : (rd l0 (ji7)) = (rd l0 (ji11))
                  · rw [if_pos c14] at H
                    have c14b0 : ((rd l0 (ji7)) == (rd l0 (ji11))) = true := beq_iff_eq.mpr c14
                    have c14b1 : ((rd l0 (ji7)) != (rd l0 (ji11))) = false := bne_eq_false_iff_eq.mpr c14
                    clear c14
                    obtain ⟨ji15, hji15⟩ : ∃ j_ : Int, (wrap64 (a1 - 4)) = j_ := ⟨_, rfl⟩
                    replace H : (if 0 ≤ (ji15) then (if (ji15) < (l0.length : Int) then (if (rd l0 (ji11)) = (rd l0 (ji15)) then (if 0 ≤ (wrap64 (a1 - 5)) then (if (wrap64 (a1 - 5)) < (l0.length : Int) then (some ((rd l0 (ji15)) == (rd l0 (wrap64 (a1 - 5))))) else (none)) else (none)) else (some false)) else (none)) else (none)) = some r := by first | (rw [hji15] at H; exact H) | (simp only [hji15] at H ⊢; exact H)
                    have hji15w : (IntKind.i64.wrap (a1 - 4)) = ji15 := (i64_w _).trans hji15
                    by_cases c16 : 0 ≤ (ji15)
                    · rw [if_pos c16] at H
                      have c16b0 : decide (0 ≤ (ji15)) = true := decide_eq_true c16
                      clear c16
                      by_cases c17 : (ji15) < (l0.length : Int)
                      · rw [if_pos c17] at H
                        have c17b0 : decide ((ji15) < (l0.length : Int)) = true := decide_eq_true c17
                        clear c17
                        by_cases c18 : (rd l0 (ji11)) = (rd l0 (ji15))
                        · rw [if_pos c18] at H
                          have c18b0 : ((rd l0 (ji11)) == (rd l0 (ji15))) = true := beq_iff_eq.mpr c18
                          have c18b1 : ((rd l0 (ji11)) != (rd l0 (ji15))) = false := bne_eq_false_iff_eq.mpr c18
                          clear c18
                          obtain ⟨ji19, hji19⟩ : ∃ j_ : Int, (wrap64 (a1 - 5)) = j_ := ⟨_, rfl⟩
                          replace H : (if 0 ≤ (ji19) then (if (ji19) < (l0.length : Int) then (some ((rd l0 (ji15)) == (rd l0 (ji19)))) else (none)) else (none)) = some r := by first | (rw [hji19] at H; exact H) | (simp only [hji19] at H ⊢; exact H)
                          have hji19w : (IntKind.i64.wrap (a1 - 5)) = ji19 := (i64_w _).trans hji19
                          by_cases c20 : 0 ≤ (ji19)
                          · rw [if_pos c20] at H
                            have c20b0 : decide (0 ≤ (ji19)) = true := decide_eq_true c20
                            clear c20
                            by_cases c21 : (ji19) < (l0.length : Int)
                            · rw [if_pos c21] at H
                              have c21b0 : decide ((ji19) < (l0.length : Int)) = true := decide_eq_true c21
                              clear c21
                              obtain rfl := Option.some.inj H
                              have p101 : 0 ≤ ((ji4) : Int) := of_decide_eq_true (by first | (with_reducible assumption) | assumption)
                              have q101 : (ji4) < (l0.length : Int) := of_decide_eq_true (by first | (with_reducible assumption) | assumption)
                              obtain ⟨ad101, e101, hx101_0⟩ := Kd.at_int HR0.out (ji4) p101 q101
                              cases e101
                              replace p101 := eq_true p101
                              replace q101 := eq_true q101
                              have p102 : 0 ≤ ((ji7) : Int) := of_decide_eq_true (by first | (with_reducible assumption) | assumption)
                              have q102 : (ji7) < (l0.length : Int) := of_decide_eq_true (by first | (with_reducible assumption) | assumption)
                              obtain ⟨ad102, e102, hx102_0⟩ := Kd.at_int HR0.out (ji7) p102 q102
                              obtain rfl : ad101 = ad102 := (by injection e102)
                              replace p102 := eq_true p102
                              replace q102 := eq_true q102
                              have p103 : 0 ≤ ((ji7) : Int) := of_decide_eq_true (by first | (with_reducible assumption) | assumption)
                              have q103 : (ji7) < (l0.length : Int) := of_decide_eq_true (by first | (with_reducible assumption) | assumption)
                              obtain ⟨ad103, e103, hx103_0⟩ := Kd.at_int HR0.out (ji7) p103 q103
                              obtain rfl : ad101 = ad103 := (by injection e103)
                              replace p103 := eq_true p103
                              replace q103 := eq_true q103
                              have p104 : 0 ≤ ((ji11) : Int) := of_decide_eq_true (by first | (with_reducible assumption) | assumption)
                              have q104 : (ji11) < (l0.length : Int) := of_decide_eq_true (by first | (with_reducible assumption) | assumption)
                              obtain ⟨ad104, e104, hx104_0⟩ := Kd.at_int HR0.out (ji11) p104 q104
                              obtain rfl : ad101 = ad104 := (by injection e104)
                              replace p104 := eq_true p104
                              replace q104 := eq_true q104
                              have p105 : 0 ≤ ((ji11) : Int) := of_decide_eq_true (by first | (with_reducible assumption) | assumption)
                              have q105 : (ji11) < (l0.length : Int) := of_decide_eq_true (by first | (with_reducible assumption) | assumption)
                              obtain ⟨ad105, e105, hx105_0⟩ := Kd.at_int HR0.out (ji11) p105 q105
                              obtain rfl : ad101 = ad105 := (by injection e105)
                              replace p105 := eq_true p105
                              replace q105 := eq_true q105
                              have p106 : 0 ≤ ((ji15) : Int) := of_decide_eq_true (by first | (with_reducible assumption) | assumption)
                              have q106 : (ji15) < (l0.length : Int) := of_decide_eq_true (by first | (with_reducible assumption) | assumption)
                              obtain ⟨ad106, e106, hx106_0⟩ := Kd.at_int HR0.out (ji15) p106 q106
                              obtain rfl : ad101 = ad106 := (by injection e106)
                              replace p106 := eq_true p106
                              replace q106 := eq_true q106
                              have p107 : 0 ≤ ((ji15) : Int) := of_decide_eq_true (by first | (with_reducible assumption) | assumption)
                              have q107 : (ji15) < (l0.length : Int) := of_decide_eq_true (by first | (with_reducible assumption) | assumption)
                              obtain ⟨ad107, e107, hx107_0⟩ := Kd.at_int HR0.out (ji15) p107 q107
                              obtain rfl : ad101 = ad107 := (by injection e107)
                              replace p107 := eq_true p107
                              replace q107 := eq_true q107
                              have p108 : 0 ≤ ((ji19) : Int) := of_decide_eq_true (by first | (with_reducible assumption) | assumption)
                              have q108 : (ji19) < (l0.length : Int) := of_decide_eq_true (by first | (with_reducible assumption) | assumption)
                              obtain ⟨ad108, e108, hx108_0⟩ := Kd.at_int HR0.out (ji19) p108 q108
                              obtain rfl : ad101 = ad108 := (by injection e108)
                              replace p108 := eq_true p108
                              replace q108 := eq_true q108
                              go_enter Try.func49, Try.ntmps49
                              go_wp2
                              repeat (go_quiet (fail); try go_wp2)
                              go_ret
                              exact ⟨by first | rfl | (simp; done) | (simp only [← hji4, ← hji7, ← hji11, ← hji15, ← hji19] <;> (first | rfl | simp)) | (simp [*]; done), by repeat (first | exact Drawn0.refl _ | apply Drawn0.step)⟩
                            · rw [if_neg c21] at H
                              exact absurd H (by simp)
                          · rw [if_neg c20] at H
                            exact absurd H (by simp)
                        · rw [if_neg c18] at H
                          have c18b0 : ((rd l0 (ji11)) == (rd l0 (ji15))) = false := beq_eq_false_iff_ne.mpr c18
                          have c18b1 : ((rd l0 (ji11)) != (rd l0 (ji15))) = true := bne_iff_ne.mpr c18
                          obtain rfl := Option.some.inj H
                          have p101 : 0 ≤ ((ji4) : Int) := of_decide_eq_true (by first | (with_reducible assumption) | assumption)
                          have q101 : (ji4) < (l0.length : Int) := of_decide_eq_true (by first | (with_reducible assumption) | assumption)
                          obtain ⟨ad101, e101, hx101_0⟩ := Kd.at_int HR0.out (ji4) p101 q101
                          cases e101
                          replace p101 := eq_true p101
                          replace q101 := eq_true q101
                          have p102 : 0 ≤ ((ji7) : Int) := of_decide_eq_true (by first | (with_reducible assumption) | assumption)
                          have q102 : (ji7) < (l0.length : Int) := of_decide_eq_true (by first | (with_reducible assumption) | assumption)
                          obtain ⟨ad102, e102, hx102_0⟩ := Kd.at_int HR0.out (ji7) p102 q102
                          obtain rfl : ad101 = ad102 := (by injection e102)
                          replace p102 := eq_true p102
                          replace q102 := eq_true q102
                          have p103 : 0 ≤ ((ji7) : Int) := of_decide_eq_true (by first | (with_reducible assumption) | assumption)
                          have q103 : (ji7) < (l0.length : Int) := of_decide_eq_true (by first | (with_reducible assumption) | assumption)
                          obtain ⟨ad103, e103, hx103_0⟩ := Kd.at_int HR0.out (ji7) p103 q103
                          obtain rfl : ad101 = ad103 := (by injection e103)
                          replace p103 := eq_true p103
                          replace q103 := eq_true q103
                          have p104 : 0 ≤ ((ji11) : Int) := of_decide_eq_true (by first | (with_reducible assumption) | assumption)
                          have q104 : (ji11) < (l0.length : Int) := of_decide_eq_true (by first | (with_reducible assumption) | assumption)
                          obtain ⟨ad104, e104, hx104_0⟩ := Kd.at_int HR0.out (ji11) p104 q104
                          obtain rfl : ad101 = ad104 := (by injection e104)
                          replace p104 := eq_true p104
                          replace q104 := eq_true q104
                          have p105 : 0 ≤ ((ji11) : Int) := of_decide_eq_true (by first | (with_reducible assumption) | assumption)
                          have q105 : (ji11) < (l0.length : Int) := of_decide_eq_true (by first | (with_reducible assumption) | assumption)
                          obtain ⟨ad105, e105, hx105_0⟩ := Kd.at_int HR0.out (ji11) p105 q105
                          obtain rfl : ad101 = ad105 := (by injection e105)
                          replace p105 := eq_true p105
                          replace q105 := eq_true q105
                          have p106 : 0 ≤ ((ji15) : Int) := of_decide_eq_true (by first | (with_reducible assumption) | assumption)
                          have q106 : (ji15) < (l0.length : Int) := of_decide_eq_true (by first | (with_reducible assumption) | assumption)
                          obtain ⟨ad106, e106, hx106_0⟩ := Kd.at_int HR0.out (ji15) p106 q106
                          obtain rfl : ad101 = ad106 := (by injection e106)
                          replace p106 := eq_true p106
                          replace q106 := eq_true q106
                          go_enter Try.func49, Try.ntmps49
                          go_wp2
                          repeat (go_quiet (fail); try go_wp2)
                          go_ret
                          exact ⟨by first | rfl | (simp; done) | (simp only [← hji4, ← hji7, ← hji11, ← hji15] <;> (first | rfl | simp)) | (simp [*]; done), by repeat (first | exact Drawn0.refl _ | apply Drawn0.step)⟩
                      · rw [if_neg c17] at H
                        exact absurd H (by simp)
                    · rw [if_neg c16] at H
                      exact absurd H (by simp)
                  · rw [if_neg c14] at H
                    have c14b0 : ((rd l0 (ji7)) == (rd l0 (ji11))) = false := beq_eq_false_iff_ne.mpr c14
                    have c14b1 : ((rd l0 (ji7)) != (rd l0 (ji11))) = true := bne_iff_ne.mpr c14
                    obtain rfl := Option.some.inj H
                    have p101 : 0 ≤ ((ji4) : Int) := of_decide_eq_true (by first | (with_reducible assumption) | assumption)
                    have q101 : (ji4) < (l0.length : Int) := of_decide_eq_true (by first | (with_reducible assumption) | assumption)
                    obtain ⟨ad101, e101, hx101_0⟩ := Kd.at_int HR0.out (ji4) p101 q101
                    cases e101
                    replace p101 := eq_true p101
                    replace q101 := eq_true q101
                    have p102 : 0 ≤ ((ji7) : Int) := of_decide_eq_true (by first | (with_reducible assumption) | assumption)
                    have q102 : (ji7) < (l0.length : Int) := of_decide_eq_true (by first | (with_reducible assumption) | assumption)
                    obtain ⟨ad102, e102, hx102_0⟩ := Kd.at_int HR0.out (ji7) p102 q102
                    obtain rfl : ad101 = ad102 := (by injection e102)
                    replace p102 := eq_true p102
                    replace q102 := eq_true q102
                    have p103 : 0 ≤ ((ji7) : Int) := of_decide_eq_true (by first | (with_reducible assumption) | assumption)
                    have q103 : (ji7) < (l0.length : Int) := of_decide_eq_true (by first | (with_reducible assumption) | assumption)
                    obtain ⟨ad103, e103, hx103_0⟩ := Kd.at_int HR0.out (ji7) p103 q103
                    obtain rfl : ad101 = ad103 := (by injection e103)
                    replace p103 := eq_true p103
                    replace q103 := eq_true q103
                    have p104 : 0 ≤ ((ji11) : Int) := of_decide_eq_true (by first | (with_reducible assumption) | assumption)
                    have q104 : (ji11) < (l0.length : Int) := of_decide_eq_true (by first | (with_reducible assumption) | assumption)
                    obtain ⟨ad104, e104, hx104_0⟩ := Kd.at_int HR0.out (ji11) p104 q104
                    obtain rfl : ad101 = ad104 := (by injection e104)
                    replace p104 := eq_true p104
                    replace q104 := eq_true q104
                    go_enter Try.func49, Try.ntmps49
                    go_wp2
                    repeat (go_quiet (fail); try go_wp2)
                    go_ret
                    exact ⟨by first | rfl | (simp; done) | (simp only [← hji4, ← hji7, ← hji11] <;> (first | rfl | simp)) | (simp [*]; done), by repeat (first | exact Drawn0.refl _ | apply Drawn0.step)⟩
                · rw [if_neg c13] at H
                  exact absurd H (by simp)
              · rw [if_neg c12] at H
                exact absurd H (by simp)
            · rw [if_neg c10] at H
              have c10b0 : ((rd l0 (ji4)) == (rd l0 (ji7))) = false := beq_eq_false_iff_ne.mpr c10
              have c10b1 : ((rd l0 (ji4)) != (rd l0 (ji7))) = true := bne_iff_ne.mpr c10
              obtain rfl := Option.some.inj H
              have p101 : 0 ≤ ((ji4) : Int) := of_decide_eq_true (by first | (with_reducible assumption) | assumption)
              have q101 : (ji4) < (l0.length : Int) := of_decide_eq_true (by first | (with_reducible assumption) | assumption)
              obtain ⟨ad101, e101, hx101_0⟩ := Kd.at_int HR0.out (ji4) p101 q101
              cases e101
              replace p101 := eq_true p101
              replace q101 := eq_true q101
              have p102 : 0 ≤ ((ji7) : Int) := of_decide_eq_true (by first | (with_reducible assumption) | assumption)
              have q102 : (ji7) < (l0.length : Int) := of_decide_eq_true (by first | (with_reducible assumption) | assumption)
              obtain ⟨ad102, e102, hx102_0⟩ := Kd.at_int HR0.out (ji7) p102 q102
              obtain rfl : ad101 = ad102 := (by injection e102)
              replace p102 := eq_true p102
              replace q102 := eq_true q102
              go_enter Try.func49, Try.ntmps49
              go_wp2
              repeat (go_quiet (fail); try go_wp2)
              go_ret
              exact ⟨by first | rfl | (simp; done) | (simp only [← hji4, ← hji7] <;> (first | rfl | simp)) | (simp [*]; done), by repeat (first | exact Drawn0.refl _ | apply Drawn0.step)⟩
          · rw [if_neg c9] at H
            exact absurd H (by simp)
        · rw [if_neg c8] at H
          exact absurd H (by simp)
      · rw [if_neg c6] at H
        exact absurd H (by simp)
    · rw [if_neg c5] at H
      exact absurd H (by simp)

end Go.Proofs.Ytogedkkdhonmlaa.P

namespace Go.Proofs.Ytogedkkdhonmlaa.P
open Go Go.RowKit Go.Proofs.YtogedkkdhonmlaaW.PrintWords
set_option linter.unusedVariables false
/-! ### Bit texts -/
def isBit (c : UInt8) : Bool := c == 48 || c == 49
def isBits (s : ByteArray) : Bool := s.data.toList.all isBit
def BitsTo (s : ByteArray) (pos : Nat) : Prop := ∀ i (h : i < s.size), i < pos → isBit (s[i]'h) = true
theorem bitsTo_zero (s : ByteArray) : BitsTo s 0 := fun i _ h => absurd h (Nat.not_lt_zero i)
theorem bitsTo_succ {s : ByteArray} {pos : Nat} (h : BitsTo s pos) (hp : pos < s.size) (hb : isBit (s[pos]'hp) = true) : BitsTo s (pos + 1) := by
  intro i hi hlt
  by_cases e : i = pos
  · subst e; exact hb
  · exact h i hi (by omega)
theorem isBits_iff (s : ByteArray) : isBits s = true ↔ BitsTo s s.size := by
  unfold isBits BitsTo
  rw [List.all_eq_true]
  constructor
  · intro h i hi _
    exact h _ (by show s.data[i] ∈ _; simp)
  · intro h x hx
    obtain ⟨i, hi, rfl⟩ := List.getElem_of_mem hx
    have hs : i < s.size := by simpa using hi
    have h2 := h i hs hs
    rw [Array.getElem_toList]
    exact h2
theorem isBits_of (s : ByteArray) {pos : Nat} (hb : BitsTo s pos) (hp : ¬ pos < s.size) : isBits s = true :=
  (isBits_iff s).2 fun i hi _ => hb i hi (by omega)
theorem isBits_not (s : ByteArray) {pos : Nat} (hp : pos < s.size) (hn : isBit (s[pos]'hp) = false) : isBits s = false := by
  cases h : isBits s with
  | false => rfl
  | true => have := (isBits_iff s).1 h pos hp hp; rw [this] at hn; cases hn
theorem isBits_at {s : ByteArray} (h : isBits s = true) {pos : Nat} (hp : pos < s.size) : isBit (s[pos]'hp) = true := (isBits_iff s).1 h pos hp hp
theorem isBit_cases {c : UInt8} (h : isBit c = true) : c = 48 ∨ c = 49 := by
  unfold isBit at h; simpa using h
theorem not_bit {c : UInt8} (h : isBit c = false) : c.toNat ≠ 48 ∧ c.toNat ≠ 49 := by
  unfold isBit at h
  rw [Bool.or_eq_false_iff] at h
  obtain ⟨h1, h2⟩ := h
  rw [beq_eq_false_iff_ne] at h1 h2
  exact ⟨fun e => h1 (UInt8.toNat_inj.1 e), fun e => h2 (UInt8.toNat_inj.1 e)⟩
theorem decode_notBit (s : ByteArray) (pos : Nat) (hp : pos < s.size) (hn : isBit (s[pos]'hp) = false) : ((((Utf8.decode s pos).1 : Nat) : Int) == 48) = false ∧ ((((Utf8.decode s pos).1 : Nat) : Int) == 49) = false := by
  obtain ⟨h1, h2⟩ := not_bit hn
  by_cases ha : (s[pos]'hp).toNat < 128
  · rw [decode_ascii s pos hp ha]
    constructor <;> rw [beq_eq_false_iff_ne] <;> simp only <;> omega
  · have := (decode_high s pos hp (by omega)).1
    constructor <;> rw [beq_eq_false_iff_ne] <;> omega
theorem next_bit {P : Program} (w : World) (s : ByteArray) (pos : Nat) (ty : TypeId) (hp : pos < s.size) {b : Nat} (hb : (s[pos]'hp).toNat = b) (hlt : b < 128) :
    (Instr.next (.pointer (some ⟨w.heap.size, 0, none⟩)) true ty).run P (w.iter s pos) = .ok (.tuple #[.bool true, .int .i64 pos, .int .i32 b]) (w.iter s (pos + 1)) := by
  rw [run_next_ascii w s pos ty hp (by omega), hb]
theorem below_iter (w : World) (s : ByteArray) (pos : Nat) : Below w.heap.size w (w.iter s pos) := (Below.refl _ _).alloc (Nat.le_refl _) _

/-! ### The register of the sum -/
def crcI (r b : Int) : Int := if (Go.bits .xor .i64 (Go.bits .and .i64 (r / 16384) 1) b) = 1 then Go.bits .xor .i64 (Go.bits .and .i64 (wrap64 (r * 2)) 32767) 17817 else Go.bits .and .i64 (wrap64 (r * 2)) 32767
/-- A fold over the first letters of a text. -/
def foldTo {α : Type} (f : α → Int → α) (z : α) (s : ByteArray) (pos : Nat) : α := ((bytesOf s).take pos).foldl f z
theorem foldTo_zero {α : Type} (f : α → Int → α) (z : α) (s : ByteArray) : foldTo f z s 0 = z := by simp [foldTo]
theorem foldTo_succ {α : Type} (f : α → Int → α) (z : α) (s : ByteArray) (pos : Nat) (hp : pos < s.size) {b : Nat} (hb : (s[pos]'hp).toNat = b) : foldTo f z s (pos + 1) = f (foldTo f z s pos) b := by
  have hl : pos < (bytesOf s).length := by rw [bytesOf_length]; exact hp
  have he : (bytesOf s)[pos]'hl = (b : Int) := by
    have h2 : (bytesOf s)[pos]? = some (b : Int) := by
      unfold bytesOf
      rw [List.getElem?_map, Array.getElem?_toList, Array.getElem?_eq_getElem (show pos < s.data.size from hp), ← hb]
      rfl
    rw [List.getElem?_eq_getElem hl] at h2
    exact Option.some.inj h2
  unfold foldTo
  rw [List.take_succ_eq_append_getElem hl, List.foldl_append, he]
  rfl
theorem foldTo_end {α : Type} (f : α → Int → α) (z : α) (s : ByteArray) (pos : Nat) (hp : ¬ pos < s.size) : foldTo f z s pos = (bytesOf s).foldl f z := by
  unfold foldTo
  rw [List.take_of_length_le (by rw [bytesOf_length]; omega)]
def crcOf (s : ByteArray) : Int := (bytesOf s).foldl (fun r c => crcI r (c - 48)) 0
/-! ### Stuffing, letter by letter -/
def stuffStep (st : List Int × Int × Int) (c : Int) : List Int × Int × Int :=
  if (if c = st.2.2 then st.2.1 + 1 else 1) = 5 then (st.1 ++ [c] ++ [97 - c], 1, 97 - c) else (st.1 ++ [c], (if c = st.2.2 then st.2.1 + 1 else 1), c)
def stuffTo (s : ByteArray) (pos : Nat) : List Int × Int × Int := foldTo stuffStep ([], 0, 120) s pos
def stuffL (l : List Int) : List Int := (l.foldl stuffStep ([], 0, 120)).1
theorem stuffTo_zero (s : ByteArray) : stuffTo s 0 = ([], 0, 120) := foldTo_zero _ _ _
theorem stuffTo_succ (s : ByteArray) (pos : Nat) (hp : pos < s.size) {b : Nat} (hb : (s[pos]'hp).toNat = b) : stuffTo s (pos + 1) = stuffStep (stuffTo s pos) b := foldTo_succ _ _ _ _ hp hb
theorem stuffTo_end (s : ByteArray) (pos : Nat) (hp : ¬ pos < s.size) : (stuffTo s pos).1 = stuffL (bytesOf s) := by
  unfold stuffTo stuffL; rw [foldTo_end _ _ _ _ hp]
theorem foldTo_over {α : Type} (f : α → Int → α) (z : α) (s : ByteArray) (pos : Nat) (hp : ¬ pos < s.size) : foldTo f z s (pos + 1) = foldTo f z s pos := by
  rw [foldTo_end _ _ _ _ hp, foldTo_end _ _ _ _ (by omega)]
/-- What holds of a state of a fold over a text's beginning. -/
theorem foldTo_inv {α : Type} (f : α → Int → α) (z : α) (s : ByteArray) (I : Nat → α → Prop) (h0 : I 0 z) (h1 : ∀ n a c, I n a → I (n + 1) (f a c)) (hm : ∀ n a, I n a → I (n + 1) a) (pos : Nat) : I pos (foldTo f z s pos) := by
  induction pos with
  | zero => rw [foldTo_zero]; exact h0
  | succ n ih =>
    by_cases hp : n < s.size
    · rw [foldTo_succ f z s n hp rfl]; exact h1 _ _ _ ih
    · rw [foldTo_over f z s n hp]; exact hm _ _ ih
theorem stuffTo_bounds (s : ByteArray) (pos : Nat) : (stuffTo s pos).1.length ≤ 2 * pos ∧ 0 ≤ (stuffTo s pos).2.1 ∧ (stuffTo s pos).2.1 ≤ pos := by
  refine foldTo_inv stuffStep ([], 0, 120) s (fun n a => a.1.length ≤ 2 * n ∧ 0 ≤ a.2.1 ∧ a.2.1 ≤ n) ⟨by simp, by simp, by simp⟩ (fun n a c h => ?_) (fun n a h => ⟨by omega, h.2.1, by omega⟩) pos
  obtain ⟨h1, h2, h3⟩ := h
  have hr : 0 ≤ (if c = a.2.2 then a.2.1 + 1 else 1) ∧ (if c = a.2.2 then a.2.1 + 1 else 1) ≤ (n : Int) + 1 := by split <;> omega
  unfold stuffStep
  generalize (if c = a.2.2 then a.2.1 + 1 else 1) = run at *
  split
  · exact ⟨by simp; omega, by simp, by simp; omega⟩
  · exact ⟨by simp; omega, hr.1, by have := hr.2; simp only []; omega⟩
/-! ### Taking the stuff bits out -/
def destuffL : List Int → Int → Int → Int → List Int → List Int × Int
  | [], _, _, _, out => (out, -1)
  | c :: l, i, run, last, out => if run = 5 then (if c = last then (out, i) else destuffL l (i + 1) 1 c out) else destuffL l (i + 1) (if c = last then run + 1 else 1) c (out ++ [c])
theorem drop_cons (s : ByteArray) (pos : Nat) (hp : pos < s.size) {b : Nat} (hb : (s[pos]'hp).toNat = b) : (bytesOf s).drop pos = (b : Int) :: (bytesOf s).drop (pos + 1) := by
  have hl : pos < (bytesOf s).length := by rw [bytesOf_length]; exact hp
  rw [List.drop_eq_getElem_cons hl]
  congr 1
  have h2 : (bytesOf s)[pos]? = some (b : Int) := by
    unfold bytesOf
    rw [List.getElem?_map, Array.getElem?_toList, Array.getElem?_eq_getElem (show pos < s.data.size from hp), ← hb]
    rfl
  rw [List.getElem?_eq_getElem hl] at h2
  exact Option.some.inj h2
theorem drop_end (s : ByteArray) (pos : Nat) (hp : ¬ pos < s.size) : (bytesOf s).drop pos = [] := List.drop_eq_nil_of_le (by rw [bytesOf_length]; omega)
/-- Where the walk stands: what is still to come gives R. -/
structure DesAt (s : ByteArray) (R : List Int × Int) (pos : Nat) (out : List Int) (run last : Int) : Prop where
  eq : destuffL ((bytesOf s).drop pos) pos run last out = R
  len : out.length ≤ pos
  lo : 0 ≤ run
  hi : run ≤ 5
theorem DesAt.zero (s : ByteArray) : DesAt s (destuffL (bytesOf s) 0 0 120 []) 0 [] 0 120 := ⟨by rw [List.drop_zero]; rfl, by simp, by omega, by omega⟩
theorem DesAt.step {s : ByteArray} {R : List Int × Int} {pos : Nat} {out : List Int} {run last : Int} (h : DesAt s R pos out run last) (hp : pos < s.size) {b : Nat} (hb : (s[pos]'hp).toNat = b) (hr : run ≠ 5) : DesAt s R (pos + 1) (out ++ [(b : Int)]) (if (b : Int) = last then run + 1 else 1) b := by
  have e := h.eq
  have h1 := h.len; have h2 := h.lo; have h3 := h.hi
  rw [drop_cons s pos hp hb, destuffL, if_neg hr] at e
  refine ⟨e, by rw [List.length_append]; simp; omega, ?_, ?_⟩
  · split <;> omega
  · split <;> omega
theorem DesAt.skip {s : ByteArray} {R : List Int × Int} {pos : Nat} {out : List Int} {last : Int} (h : DesAt s R pos out 5 last) (hp : pos < s.size) {b : Nat} (hb : (s[pos]'hp).toNat = b) (hl : (b : Int) ≠ last) : DesAt s R (pos + 1) out 1 b := by
  have e := h.eq
  have h1 := h.len
  rw [drop_cons s pos hp hb, destuffL, if_pos rfl, if_neg hl] at e
  exact ⟨e, by omega, by omega, by omega⟩
theorem DesAt.stop {s : ByteArray} {R : List Int × Int} {pos : Nat} {out : List Int} {last : Int} (h : DesAt s R pos out 5 last) (hp : pos < s.size) {b : Nat} (hb : (s[pos]'hp).toNat = b) (hl : (b : Int) = last) : R = (out, (pos : Int)) := by
  have e := h.eq
  rw [drop_cons s pos hp hb, destuffL, if_pos rfl, if_pos hl] at e
  exact e.symm
theorem DesAt.over {s : ByteArray} {R : List Int × Int} {pos : Nat} {out : List Int} {run last : Int} (h : DesAt s R pos out run last) (hp : ¬ pos < s.size) : R = (out, -1) := by
  have e := h.eq
  rw [drop_end s pos hp, destuffL] at e
  exact e.symm
/-- What Destuff says of a text. -/
def destuffV (s : ByteArray) : ByteArray × Int := if s.size ≤ 4000 ∧ isBits s = true then (strOfNums (destuffL (bytesOf s) 0 0 120 []).1, (destuffL (bytesOf s) 0 0 120 []).2) else (⟨#[]⟩, -2)
end Go.Proofs.Ytogedkkdhonmlaa.P

namespace Go.Proofs.Ytogedkkdhonmlaa.P
open Go Go.RowKit Go.Proofs.YtogedkkdhonmlaaW.PrintWords
set_option linter.unusedVariables false
/-! ### Facts on the program's types; an iterator beside rows of the call's own -/
theorem infoU8 : (Try.prog.info? 5).map (fun i => (i.zero, i.size, i.bytes)) = some (some (.int .u8 0), 1, 1) := by kernel_rfl
theorem R_iterAt {α : Type} {d : Kd α} {e : Nat} {w : World} {base : Nat} {ok : Nat → Prop} {v : Value} {xs : List α} (h : d.R e w base ok v xs) {k : Nat} {s : ByteArray} {pos : Nat} (hk : w.heap[k]? = some (.stringIter s pos)) (pos' : Nat) :
    d.R e (w.iterAt k s pos') base ok v xs :=
  Kd.R_mono (Kd.R_move (Kd.R_bound h) (fun j hj => by
    obtain ⟨_, _, _, q, _, cells, hc⟩ := hj
    refine Lib.iterAt_other w k j s pos' ?_
    rintro rfl
    rw [hk] at hc
    cases hc)) (fun _ hj => hj.1)
theorem iter_grown {α : Type} {d : Kd α} {e : Nat} {W w1 : World} {base : Nat} {ok : Nat → Prop} {v : Value} {xs : List α} (h : d.R e W base ok v xs) (hg : W.grownBy w1 v.ownBlock) {k : Nat} {s : ByteArray} {pos : Nat} (hk : W.heap[k]? = some (.stringIter s pos)) : w1.heap[k]? = some (.stringIter s pos) := by
  rw [hg.block k (Array.getElem?_eq_some_iff.1 hk).1 ?_, hk]
  intro e1
  obtain ⟨inner, ho⟩ := Kd.R_own h
  obtain ⟨cells, hc⟩ := own_typed ho k e1.symm
  rw [hk] at hc
  cases hc
theorem iter_new (w : World) (s : ByteArray) (pos : Nat) : (w.iter s pos).heap[w.heap.size]? = some (.stringIter s pos) := World.iter_heap w s pos
theorem next_bit_at {P : Program} (w : World) (k : Nat) (s : ByteArray) (pos : Nat) (ty : TypeId) (hk : w.heap[k]? = some (.stringIter s pos)) (hp : pos < s.size) {b : Nat} (hb : (s[pos]'hp).toNat = b) (hlt : b < 128) :
    (Instr.next (.pointer (some ⟨k, 0, none⟩)) true ty).run P w = .ok (.tuple #[.bool true, .int .i64 pos, .int .i32 b]) (w.iterAt k s (pos + 1)) := by
  rw [Lib.run_next_ascii_at w k s pos ty hk hp (by omega), hb]
theorem R_iter {α : Type} {d : Kd α} {e : Nat} {w : World} {base : Nat} {ok : Nat → Prop} {v : Value} {xs : List α} (h : d.R e w base ok v xs) (s : ByteArray) (pos : Nat) : d.R e (w.iter s pos) base ok v xs := Kd.R_below h (below_iter w s pos)
/-- What '[]byte(s)' leaves. -/
theorem below_bytes {B : Nat} {a w : World} (h : Below B a w) (hB : B ≤ w.heap.size) (e : TypeId) (s : ByteArray) : Below B a (Lib.bytesWorld w e s) :=
  h.trans ⟨rfl, rfl, rfl, by rw [Lib.bytesWorld_size]; omega, fun j hj => Lib.bytesWorld_at_old w e s j (by omega)⟩
theorem bytes_C (w : World) (e : TypeId) (s : ByteArray) (hs : s.size ≤ 9223372036854775807) : Kd.C (Kd.int .u8) (Lib.bytesWorld w e s) (some ⟨w.heap.size, 0, none⟩) s.size (bytesOf s) := by
  refine ⟨bytesOf_length s, hs, fun _ => ⟨_, rfl, fun j p hj => ⟨[.int .u8 p], rfl, rfl, fun i u hu => ?_⟩⟩⟩
  have hlt : j < s.size := by have := (List.getElem?_eq_some_iff.1 hj).1; rw [bytesOf_length] at this; exact this
  have hp : p = ((s.data.toList.getD j 0).toNat : Int) := by
    unfold bytesOf at hj
    rw [List.getElem?_map, Array.getElem?_toList, Array.getElem?_eq_getElem (show j < s.data.size from hlt)] at hj
    rw [List.getD_eq_getElem?_getD, Array.getElem?_toList, Array.getElem?_eq_getElem (show j < s.data.size from hlt)]
    exact (Option.some.inj hj).symm
  match i, hu with
  | 0, hu =>
    obtain rfl := Option.some.inj hu
    show (Lib.bytesWorld w e s).cell? ((⟨w.heap.size, 0, none⟩ : Addr).add (j * 1 + 0)) = _
    rw [add_plain, Nat.mul_one, Nat.add_zero, Lib.bytesWorld_cell w e s j hlt, hp]
theorem C_cell {k : IntKind} {w : World} {g n : Nat} {xs : List Int} (h : (Kd.int k).C w (some ⟨g, 0, none⟩) n xs) (i : Nat) (hi : i < n) : w.cell? ⟨g, i, none⟩ = some (.int k (rd xs (i : Int))) := by
  obtain ⟨ad, e, hc⟩ := Kd.at_int h (i : Int) (by omega) (by omega)
  obtain rfl := Option.some.inj e
  rw [add_plain] at hc
  exact hc
theorem C_block {k : IntKind} {w w' : World} {g n : Nat} {xs : List Int} (h : (Kd.int k).C w (some ⟨g, 0, none⟩) n xs) (hb : w'.heap[g]? = w.heap[g]?) : (Kd.int k).C w' (some ⟨g, 0, none⟩) n xs := by
  refine ⟨h.1, h.2.1, fun hn => ?_⟩
  obtain ⟨ad, e, hc⟩ := h.2.2 hn
  obtain rfl := Option.some.inj e
  refine ⟨_, rfl, fun j p hj => ?_⟩
  obtain ⟨c, h1, h2, h3⟩ := hc j p hj
  refine ⟨c, h1, h2, fun i u hu => ?_⟩
  have := h3 i u hu
  rw [add_plain] at this ⊢
  rw [← this]
  simp only [World.cell?, hb]
theorem C_kept {k : IntKind} {W w1 : World} {g n : Nat} {xs : List Int} {v : Value} (h : (Kd.int k).C W (some ⟨g, 0, none⟩) n xs) (hg : W.grownBy w1 v.ownBlock) (hlt : g < W.heap.size) (hne : ∀ j, v.ownBlock = some j → j ≠ g) : (Kd.int k).C w1 (some ⟨g, 0, none⟩) n xs :=
  C_block h (hg.block g hlt (fun e => hne g e.symm rfl))
theorem R_empty {α : Type} (d : Kd α) (w : World) (e base : Nat) (hb : base ≤ w.heap.size) (ok : Nat → Prop) (hok : ok w.heap.size) : d.R e (w.alloc (.cells #[] e)) base ok (.slice (some ⟨w.heap.size, 0, none⟩) 0 0) [] := by
  refine ⟨fun k hk => by (obtain rfl : w.heap.size = k := Option.some.inj hk); exact hok, [], ⟨by simp, .inr ⟨w.heap.size, 0, #[], rfl, hb, ?_, Nat.le_refl _, by simp [maxLen], by simp, by simp⟩⟩, Reps.none _ _⟩
  exact heap_alloc_new w _
theorem iterPos_at {w : World} {k : Nat} {s : ByteArray} {pos : Nat} (hk : w.heap[k]? = some (.stringIter s pos)) : w.iterPos k = pos := by
  unfold World.iterPos; rw [hk]
theorem make_R {P : Program} {α : Type} (d : Kd α) (w : World) (base : Nat) (t e : TypeId) (z : Value) (bytes : Nat) (ht : P.underlying t = some (.slice e)) (hinfo : (P.info? e).map (fun i => (i.zero, i.size, i.bytes)) = some (some z, d.sz, bytes)) (c : Nat) (hb : bytes * c ≤ 281474976710656) (h63 : c ≤ maxLen) (hbase : base ≤ w.heap.size) :
    ∃ w' cap, (Instr.makeSlice t (.int .i64 0) (.int .i64 (c : Int))).run P w = .ok (.slice (some ⟨w.heap.size, 0, none⟩) 0 cap) w' ∧
      d.R e w' base (fun _ => True) (.slice (some ⟨w.heap.size, 0, none⟩) 0 cap) [] ∧ w.grownBy w' none := by
  obtain ⟨i, hi, hh⟩ := Option.map_eq_some_iff.1 hinfo
  simp only [Prod.mk.injEq] at hh
  obtain ⟨hz, hs, hby⟩ := hh
  obtain ⟨w', h1, h2, h3⟩ := run_make_own (P := P) w base t e i z d.sz ht hi hz hs .i64 .i64 c (by rw [hby]; exact hb) h63 hbase
  exact ⟨w', c, h1, ⟨fun _ _ => trivial, [], h2, Reps.none _ _⟩, h3⟩
end Go.Proofs.Ytogedkkdhonmlaa.P

namespace Go.Proofs.Ytogedkkdhonmlaa.P
open Go Go.RowKit Go.Proofs.YtogedkkdhonmlaaW.PrintWords
set_option linter.unusedVariables false
/-! ### Whole numbers and lists -/
/-- A bit as a number. -/
def b2 (b : Bool) : Int := if b then 1 else 0
theorem b2_range (b : Bool) : 0 ≤ b2 b ∧ b2 b ≤ 1 := by cases b <;> decide
theorem w64 {x : Int} (h0 : 0 ≤ x) (h1 : x < 1000000000) : wrap64 x = x := by unfold wrap64; omega
theorem rd_set (v : List Int) (i : Nat) (x : Int) (t : Nat) (hi : i < v.length) : rd (v.set i x) (t : Int) = if t = i then x else rd v (t : Int) := by
  unfold rd
  rw [Int.toNat_natCast, List.getD_eq_getElem?_getD, List.getD_eq_getElem?_getD, List.getElem?_set]
  by_cases e : i = t
  · subst e; simp [hi]
  · rw [if_neg e, if_neg (fun h => e h.symm)]
theorem rd_snoc (v : List Int) (x : Int) (t : Nat) : rd (v ++ [x]) (t : Int) = if t < v.length then rd v t else if t = v.length then x else 0 := by
  unfold rd
  rw [Int.toNat_natCast, List.getD_eq_getElem?_getD, List.getD_eq_getElem?_getD, List.getElem?_append]
  by_cases h : t < v.length
  · rw [if_pos h, if_pos h]
  · rw [if_neg h, if_neg h]
    by_cases e : t = v.length
    · rw [if_pos e, e, Nat.sub_self]; rfl
    · rw [if_neg e, List.getElem?_eq_none (by simp; omega)]; rfl
theorem rd_get (v : List Int) (t : Nat) (h : t < v.length) : v[t]? = some (rd v (t : Int)) := by
  unfold rd
  rw [Int.toNat_natCast, List.getD_eq_getElem?_getD, List.getElem?_eq_getElem h]; rfl
/-- Two lists of one length that agree in the first i places. -/
def SameTo (x l : List Int) (i : Nat) : Prop := x.length = l.length ∧ ∀ t, t < i → x[t]? = l[t]?
theorem SameTo.zero {x l : List Int} (h : x.length = l.length) : SameTo x l 0 := ⟨h, fun t ht => absurd ht (Nat.not_lt_zero t)⟩
theorem SameTo.all {x l : List Int} {i : Nat} (h : SameTo x l i) (hi : l.length ≤ i) : x = l := by
  apply List.ext_getElem?
  intro t
  by_cases c : t < l.length
  · exact h.2 t (by omega)
  · rw [List.getElem?_eq_none (by have := h.1; omega), List.getElem?_eq_none (by omega)]
theorem SameTo.next {x l : List Int} {i : Nat} (h : SameTo x l i) (hi : i < l.length) : SameTo (x.set i (rd l (i : Int))) l (i + 1) := by
  refine ⟨by rw [List.length_set]; exact h.1, fun t ht => ?_⟩
  rw [List.getElem?_set]
  by_cases e : i = t
  · subst e
    rw [if_pos rfl, if_pos (by have := h.1; omega), rd_get l i hi]
  · rw [if_neg e]
    exact h.2 t (by omega)
theorem ev_neg {α : Type} {c : Prop} [Decidable c] {f g : Nat → Option α} {r : α} (h : ¬ c) (k : Ev g r) : Ev (fun n => if c then f n else g n) r :=
  Ev.congr (fun _ => if_neg h) k
theorem ev_pos {α : Type} {c : Prop} [Decidable c] {f g : Nat → Option α} {r : α} (h : c) (k : Ev f r) : Ev (fun n => if c then f n else g n) r :=
  Ev.congr (fun _ => if_pos h) k
theorem ev_some {α β : Type} {a : Option β} {b : β} {f : Nat → β → Option α} {r : α} (h : a = some b) (k : Ev (fun n => f n b) r) : Ev (fun n => a.bind (f n)) r :=
  Ev.congr (fun _ => by rw [h]; rfl) k
end Go.Proofs.Ytogedkkdhonmlaa.P

namespace Go.Proofs.Ytogedkkdhonmlaa.P
open Go Go.RowKit Go.Proofs.YtogedkkdhonmlaaW.PrintWords
set_option linter.unusedVariables false
/-! ### How many equal letters stand last -/
structure Trail (l : List Int) (n run : Nat) (last : Int) : Prop where
  le : n ≤ l.length
  run_le : run ≤ n
  same : ∀ j, n - run ≤ j → j < n → rd l (j : Int) = last
  other : run < n → rd l ((n - run - 1 : Nat) : Int) ≠ last
  pos : 0 < n → 0 < run
theorem Trail.zero (l : List Int) (last : Int) : Trail l 0 0 last := ⟨Nat.zero_le _, Nat.le_refl _, fun j _ h => absurd h (Nat.not_lt_zero j), fun h => absurd h (Nat.lt_irrefl _), fun h => absurd h (Nat.lt_irrefl _)⟩
theorem Trail.next {l : List Int} {n run : Nat} {last : Int} (h : Trail l n run last) (hn : n < l.length) : Trail l (n + 1) (if rd l (n : Int) = last then run + 1 else 1) (rd l (n : Int)) := by
  have hr := h.run_le
  by_cases c : rd l (n : Int) = last
  · rw [if_pos c]
    refine ⟨by omega, by omega, fun j h1 h2 => ?_, fun h1 => ?_, fun _ => by omega⟩
    · by_cases e : j = n
      · rw [e]
      · rw [h.same j (by omega) (by omega), c]
    · rw [show n + 1 - (run + 1) - 1 = n - run - 1 by omega, c]
      exact h.other (by omega)
  · rw [if_neg c]
    refine ⟨by omega, by omega, fun j h1 h2 => ?_, fun h1 => ?_, fun _ => by omega⟩
    · rw [show j = n by omega]
    · rw [show n + 1 - 1 - 1 = n - 1 by omega]
      have hp := h.pos (by omega)
      rw [h.same (n - 1) (by omega) (by omega)]
      exact fun e => c e.symm
theorem rd_append (l m : List Int) (j : Nat) (h : j < l.length) : rd (l ++ m) (j : Int) = rd l (j : Int) := by
  unfold rd
  rw [Int.toNat_natCast, List.getD_eq_getElem?_getD, List.getD_eq_getElem?_getD, List.getElem?_append_left h]
theorem rd_last (l : List Int) (c : Int) : rd (l ++ [c]) (l.length : Int) = c := by
  rw [rd_snoc, if_neg (Nat.lt_irrefl _), if_pos rfl]
theorem Trail.append {l : List Int} {n run : Nat} {last : Int} (h : Trail l n run last) (m : List Int) : Trail (l ++ m) n run last := by
  have := h.le
  refine ⟨by rw [List.length_append]; omega, h.run_le, fun j h1 h2 => ?_, fun h1 => ?_, h.pos⟩
  · rw [rd_append l m j (by omega)]; exact h.same j h1 h2
  · rw [rd_append l m _ (by omega)]; exact h.other h1
theorem Trail.snoc {l : List Int} {run : Nat} {last : Int} (h : Trail l l.length run last) (c : Int) : Trail (l ++ [c]) (l.length + 1) (if c = last then run + 1 else 1) c := by
  have h1 := (h.append [c]).next (by simp)
  rw [rd_last] at h1
  exact h1
/-- Five equal letters stand last, or not: what is compared, one behind the other. -/
theorem Trail.five {l : List Int} {n run : Nat} {last : Int} (h : Trail l n run last) (h5 : run ≤ 5) (hn : 5 ≤ n) :
    (run = 5 ↔ (rd l ((n - 1 : Nat) : Int) = rd l ((n - 2 : Nat) : Int) ∧ rd l ((n - 2 : Nat) : Int) = rd l ((n - 3 : Nat) : Int) ∧ rd l ((n - 3 : Nat) : Int) = rd l ((n - 4 : Nat) : Int) ∧ rd l ((n - 4 : Nat) : Int) = rd l ((n - 5 : Nat) : Int))) := by
  have hp := h.pos (by omega)
  have e1 := h.same (n - 1) (by omega) (by omega)
  constructor
  · intro e
    subst e
    have e2 := h.same (n - 2) (by omega) (by omega)
    have e3 := h.same (n - 3) (by omega) (by omega)
    have e4 := h.same (n - 4) (by omega) (by omega)
    have e5 := h.same (n - 5) (by omega) (by omega)
    rw [e1, e2, e3, e4, e5]
    exact ⟨rfl, rfl, rfl, rfl⟩
  · rintro ⟨a1, a2, a3, a4⟩
    rcases Nat.lt_or_ge run 5 with hlt | hge
    · exfalso
      have ho := h.other (by omega)
      have hc : run = 1 ∨ run = 2 ∨ run = 3 ∨ run = 4 := by omega
      rcases hc with rfl | rfl | rfl | rfl
      · exact ho (by rw [show n - 1 - 1 = n - 2 by omega, ← a1, e1])
      · exact ho (by rw [show n - 2 - 1 = n - 3 by omega, ← a2, ← a1, e1])
      · exact ho (by rw [show n - 3 - 1 = n - 4 by omega, ← a3, ← a2, ← a1, e1])
      · exact ho (by rw [show n - 4 - 1 = n - 5 by omega, ← a4, ← a3, ← a2, ← a1, e1])
    · omega
end Go.Proofs.Ytogedkkdhonmlaa.P

namespace Go.Proofs.Ytogedkkdhonmlaa.P
open Go Go.RowKit Go.Proofs.YtogedkkdhonmlaaW.PrintWords
set_option linter.unusedVariables false
theorem due_eq {l : List Int} {n run : Nat} {last : Int} (h : Trail l n run last) (h5 : run ≤ 5) (hn : n < 100000000) : spec_l1due.f l (n : Int) = some (decide (run = 5)) := by
  have hle := h.le
  have hr := h.run_le
  unfold spec_l1due.f
  by_cases c : n < 5
  · rw [if_pos (by omega), decide_eq_false (by omega)]
  · have hf := h.five h5 (by omega)
    have w1 : wrap64 ((n : Int) - 1) = ((n - 1 : Nat) : Int) := by unfold wrap64; omega
    have w2 : wrap64 ((n : Int) - 2) = ((n - 2 : Nat) : Int) := by unfold wrap64; omega
    have w3 : wrap64 ((n : Int) - 3) = ((n - 3 : Nat) : Int) := by unfold wrap64; omega
    have w4 : wrap64 ((n : Int) - 4) = ((n - 4 : Nat) : Int) := by unfold wrap64; omega
    have w5 : wrap64 ((n : Int) - 5) = ((n - 5 : Nat) : Int) := by unfold wrap64; omega
    rw [if_neg (by omega), w1, w2, w3, w4, w5, if_pos (by omega), if_pos (by omega), if_pos (by omega), if_pos (by omega)]
    by_cases a1 : rd l ((n - 1 : Nat) : Int) = rd l ((n - 2 : Nat) : Int)
    · rw [if_pos a1, if_pos (by omega), if_pos (by omega)]
      by_cases a2 : rd l ((n - 2 : Nat) : Int) = rd l ((n - 3 : Nat) : Int)
      · rw [if_pos a2, if_pos (by omega), if_pos (by omega)]
        by_cases a3 : rd l ((n - 3 : Nat) : Int) = rd l ((n - 4 : Nat) : Int)
        · rw [if_pos a3, if_pos (by omega), if_pos (by omega)]
          by_cases a4 : rd l ((n - 4 : Nat) : Int) = rd l ((n - 5 : Nat) : Int)
          · rw [decide_eq_true (hf.2 ⟨a1, a2, a3, a4⟩), a4]; simp
          · rw [decide_eq_false (fun e => a4 (hf.1 e).2.2.2)]; simp [a4]
        · rw [if_neg a3, decide_eq_false (fun e => a3 (hf.1 e).2.2.1)]
      · rw [if_neg a2, decide_eq_false (fun e => a2 (hf.1 e).2.1)]
    · rw [if_neg a1, decide_eq_false (fun e => a1 (hf.1 e).1)]
end Go.Proofs.Ytogedkkdhonmlaa.P

namespace Go.Proofs.Ytogedkkdhonmlaa.P
open Go Go.RowKit Go.Proofs.YtogedkkdhonmlaaW.PrintWords
set_option linter.unusedVariables false
/-! ### Letters of a text; the reference's look at them -/
theorem bt_eq (s : ByteArray) (i : Nat) (h : i < s.size) : bt s (i : Int) = ((s[i]'h).toNat : Int) := by
  unfold bt; rw [dif_pos (show (i : Int).toNat < s.size from h)]; rfl
theorem bytesOf_get (s : ByteArray) (i : Nat) (h : i < (bytesOf s).length) : (bytesOf s)[i]'h = bt s (i : Int) := by
  have hs : i < s.size := by rw [bytesOf_length] at h; exact h
  have h2 : (bytesOf s)[i]? = some (bt s (i : Int)) := by
    unfold bytesOf
    rw [List.getElem?_map, Array.getElem?_toList, Array.getElem?_eq_getElem (show i < s.data.size from hs), bt_eq s i hs]
    rfl
  rw [List.getElem?_eq_getElem h] at h2
  exact Option.some.inj h2
theorem okBits_ev (s : ByteArray) (lim : Nat) (hlim : lim < 100000000) :
    Ev (fun k => spec_l1okBits.f k s (lim : Int)) (decide (s.size ≤ lim) && isBits s) := by
  have loop : s.size ≤ lim → ∀ (d i : Nat), i + d = s.size → BitsTo s i → Ev (fun k => spec_l1okBits.l0 k s (i : Int)) (isBits s) := by
    intro hl d
    induction d with
    | zero =>
      intro i hi hb
      refine Ev.step (f := fun _ => some (isBits s)) (fun k => ?_) (Ev.now _)
      simp only [spec_l1okBits.l0]
      rw [if_neg (by omega), isBits_of s hb (by omega)]
    | succ d ih =>
      intro i hi hb
      have hp : i < s.size := by omega
      cases hbit : isBit (s[i]'hp) with
      | true =>
        refine Ev.step (f := fun k => spec_l1okBits.l0 k s ((i + 1 : Nat) : Int)) (fun k => ?_) (ih (i + 1) (by omega) (bitsTo_succ hb hp hbit))
        simp only [spec_l1okBits.l0]
        rw [if_pos (by omega), if_pos (by omega), bt_eq s i hp, w64 (by omega) (by omega)]
        rcases isBit_cases hbit with e | e <;> rw [e]
        · rw [if_pos (by decide)]; rfl
        · rw [if_neg (by decide), if_pos (by decide)]; rfl
      | false =>
        refine Ev.step (f := fun _ => some (isBits s)) (fun k => ?_) (Ev.now _)
        simp only [spec_l1okBits.l0]
        obtain ⟨h1, h2⟩ := not_bit hbit
        rw [if_pos (by omega), if_pos (by omega), bt_eq s i hp, if_neg (by omega), if_neg (by omega), isBits_not s hp hbit]
  by_cases c : s.size ≤ lim
  · rw [decide_eq_true c, Bool.true_and]
    refine Ev.congr (fun k => ?_) (loop c s.size 0 (by omega) (bitsTo_zero s))
    unfold spec_l1okBits.f
    rw [if_neg (by omega)]; rfl
  · rw [decide_eq_false c, Bool.false_and]
    refine Ev.congr (f := fun _ => some false) (fun k => ?_) (Ev.now _)
    unfold spec_l1okBits.f
    rw [if_pos (by omega)]
end Go.Proofs.Ytogedkkdhonmlaa.P

namespace Go.Proofs.Ytogedkkdhonmlaa.P
open Go.RowKit Go.Proofs.YtogedkkdhonmlaaW.PrintWords Go.Proofs.YtogedkkdhonmlaaW.PrintLast Go.Proofs.YtogedkkdhonmlaaW.PrintMore
attribute [local go_sem] max2_int min2_int max_two min_two max_three min_three max_four min_four
set_option linter.unusedVariables false
set_option linter.unusedSimpArgs false

-- GIVEN rounds=0 making=1 import=Derived.Test.YtogedkkdhonmlaaWorld import=Derived.Test.YtogedkkdhonmlaaDue import=Derived.Test.YtogedkkdhonmlaaSpecBits import=Derived.Deep.QuietTactic import=Derived.BigQuiet
/-! ### spec_Destuff: function 17 -/
def spec_Destuff.f (a0 : ByteArray) : Option (ByteArray × Int) := some (destuffV a0)
theorem spec_l1okBits.at (a0 : ByteArray) (lim : Nat) (w : World) (hlim : lim < 100000000) (b : Bool) (hb : (decide (a0.size ≤ lim) && isBits a0) = b) :
    Calls Try.prog 46 #[.string a0, .int .i64 (lim : Int)] w fun e w' => e = .returned (.bool b) ∧ Below w.heap.size w w' := by
  obtain ⟨k, hk⟩ := (okBits_ev a0 lim hlim).rounds
  rw [hb] at hk
  exact (spec_l1okBits.calls k a0 (lim : Int) b w hk).mono fun e w' ⟨he, hd⟩ => ⟨he, hd.below⟩
theorem spec_l1due.at {s : ByteArray} {g c i run : Nat} {last : Int} {w : World} (hC : Kd.C (Kd.int .u8) w (some ⟨g, 0, none⟩) s.size (bytesOf s)) (hc : s.size ≤ c) (ht : Trail (bytesOf s) i run last) (h5 : run ≤ 5) (hi : i < 100000000) (b : Bool) (hb : decide (run = 5) = b) :
    Calls Try.prog 49 #[.slice (some ⟨g, 0, none⟩) s.size c, .int .i64 (i : Int)] w fun e w' => e = .returned (.bool b) ∧ Drawn0 w w' := by
  have h := due_eq ht h5 hi
  rw [hb] at h
  have := spec_l1due.calls (some ⟨g, 0, none⟩) c (bytesOf s) (i : Int) b w (by rw [bytesOf_length]; exact hC) (by rw [bytesOf_length]; exact hc) h
  rw [bytesOf_length] at this
  exact this
structure DesOk (s : ByteArray) (R : List Int × Int) (i : Nat) (out : List Int) (run : Nat) (last : Int) : Prop where
  at_ : DesAt s R i out (run : Int) last
  trail : Trail (bytesOf s) i run last
theorem rd_bytes (s : ByteArray) (i : Nat) (h : i < s.size) : rd (bytesOf s) (i : Int) = ((s[i]'h).toNat : Int) := by
  have hl : i < (bytesOf s).length := by rw [bytesOf_length]; exact h
  have h1 := rd_get (bytesOf s) i hl
  rw [List.getElem?_eq_getElem hl, bytesOf_get, bt_eq s i h] at h1
  exact (Option.some.inj h1).symm
theorem DesOk.step {s : ByteArray} {R : List Int × Int} {i : Nat} {out : List Int} {run : Nat} {last : Int} (h : DesOk s R i out run last) (hp : i < s.size) (hr : run ≠ 5) : ∃ run' last', DesOk s R (i + 1) (out ++ [rd (bytesOf s) (i : Int)]) run' last' := by
  have ht := h.trail.next (by rw [bytesOf_length]; exact hp)
  have hs := h.at_.step hp (b := (s[i]'hp).toNat) rfl (by omega)
  rw [← rd_bytes s i hp] at hs
  refine ⟨_, _, ?_, ht⟩
  rw [show (((if rd (bytesOf s) (i : Int) = last then run + 1 else 1 : Nat)) : Int) = (if rd (bytesOf s) (i : Int) = last then (run : Int) + 1 else 1) by split <;> simp]
  exact hs
theorem DesOk.skip {s : ByteArray} {R : List Int × Int} {i : Nat} {out : List Int} {last : Int} (h : DesOk s R i out 5 last) (hp : i < s.size) (hne : rd (bytesOf s) (i : Int) ≠ last) : ∃ run' last', DesOk s R (i + 1) out run' last' := by
  have ht := h.trail.next (by rw [bytesOf_length]; exact hp)
  rw [if_neg hne] at ht
  have hs := h.at_.skip hp (b := (s[i]'hp).toNat) rfl (by rw [← rd_bytes s i hp]; exact hne)
  rw [← rd_bytes s i hp] at hs
  exact ⟨1, _, hs, ht⟩
theorem DesOk.last_eq {s : ByteArray} {R : List Int × Int} {i : Nat} {out : List Int} {last : Int} (h : DesOk s R i out 5 last) : rd (bytesOf s) ((i - 1 : Nat) : Int) = last := h.trail.same (i - 1) (by have := h.trail.run_le; omega) (by have := h.trail.run_le; omega)
set_option maxHeartbeats 2000000 in
theorem spec_Destuff.yes (a0 : ByteArray) (R : List Int × Int) (w : World) (hsz : a0.size ≤ 4000) (hB0 : isBits a0 = true) (hR : destuffL (bytesOf a0) 0 0 120 [] = R) :
    Calls Try.prog 17 #[.string a0] w fun e w' => e = .returned (.tuple #[.string (strOfNums R.1), .int .i64 R.2]) ∧ Below w.heap.size w w' := by
  have hbt : Hid ((decide (a0.size ≤ 4000) && isBits a0) = true) := by
    refine Lib.hid ?_
    rw [hB0, decide_eq_true (by omega)]; rfl
  have HB := Lib.hid hB0
  have H0 : Hid (DesOk a0 R 0 [] 0 120) := Lib.hid ⟨hR ▸ DesAt.zero a0, Trail.zero _ _⟩
  clear hB0 hR
  go_enter Try.func17, Try.ntmps17
  go_wp2_with (go_at_call 46; refine (spec_l1okBits.at a0 4000 _ (by omega) true hbt.out).mono ?_; rintro e w1 ⟨rfl, hb1⟩; have hcv0 := Lib.run_convert_string_bytes (P := Try.prog) w1 9 38 5 a0 Try.underlying9 Try.underlying38 Try.underlying5; have HBL := Lib.hid hb1; clear hb1)
  have HCC : Hid (a0.size ≤ grownCap w1 a0.size 0 5) := Lib.hid (grownCap_ge _ _ _ _)
  generalize grownCap w1 a0.size 0 5 = cc at HCC ⊢
  have HR0 := Lib.hid (R_empty (Kd.int .u8) (Lib.bytesWorld w1 5 a0) 5 w.heap.size (by rw [Lib.bytesWorld_size]; have := HBL.out.size; omega) (fun k => k ≠ w1.heap.size) (by rw [Lib.bytesWorld_size]; omega))
  go_loopw [5, 6] (fun v5 v6 wr => ∃ (i : Nat) (out : List Int) (run : Nat) (last : Int), DesOk a0 R i out run last ∧ Aside0 (Kd.R (Kd.int .u8) 5 wr w.heap.size (fun k => k ≠ w1.heap.size) v5 out) ∧ Aside0 (Below w.heap.size w wr) ∧ Aside0 (Kd.C (Kd.int .u8) wr (some ⟨w1.heap.size, 0, none⟩) a0.size (bytesOf a0)) ∧ Aside0 (w1.heap.size < wr.heap.size) ∧ v6 = .int .i64 i) (fun _ v6 _ => a0.size - (intOf v6).toNat)
  case atStart => exact ⟨0, [], 0, 120, H0.out, ⟨HR0.out⟩, ⟨(below_bytes HBL.out HBL.out.size 5 a0).alloc (by rw [Lib.bytesWorld_size]; have := HBL.out.size; omega) _⟩, ⟨Kd.C_below (bytes_C w1 5 a0 (by omega)) ((Below.refl _ _).alloc (Nat.le_refl _) _)⟩, ⟨by simp [Lib.bytesWorld_size]; omega⟩, rfl⟩
  case round =>
    obtain ⟨i, out, run, last, hst, HO, HW, HC, HG, rfl⟩ := hrel
    have HL := Lib.hid hst.at_.len
    by_cases hp : i < a0.size
    · have hcell := C_cell HC.out i hp
      by_cases h5 : run = 5
      · have HD : Hid (decide (run = 5) = true) := Lib.hid (decide_eq_true h5)
        subst h5
        have hr5 := hst.trail.run_le
        have HLE := Lib.hid hst.last_eq
        have hcell2 := C_cell HC.out (i - 1) (by omega)
        rw [HLE.out] at hcell2
        have HI1 : Hid (i - 1 < a0.size) := Lib.hid (by omega)
        have HW1 : Hid (IntKind.i64.wrap ((i : Int) - 1) = ((i - 1 : Nat) : Int)) := Lib.hid (by rw [IntKind.wrap_i64]; omega)
        by_cases hx : rd (bytesOf a0) (i : Int) = last
        · have hxb : ((rd (bytesOf a0) (i : Int)) == last) = true := beq_iff_eq.mpr hx
          have HS := Lib.hid (hst.at_.stop hp (b := (a0[i]'hp).toNat) rfl (by rw [← rd_bytes a0 i hp]; exact hx))
          have hcv : ∀ n : Nat, (convert 38 9 u5).run Try.prog (wr.drewN n) = .ok (.string (strOfNums out)) (wr.drewN n) := fun n => own_string (P := Try.prog) Try.underlying38 Try.underlying5 Try.underlying9 (Kd.own_of_R (Kd.R_below HO.out (Drawn0.below ⟨⟨n, rfl⟩⟩)))
          clear hx
          go_wp2_with (go_at_call 49; refine (spec_l1due.at HC.out HCC.out hst.trail (by omega) (by omega) true HD.out).mono ?_; rintro e w' ⟨rfl, ⟨nd, rfl⟩⟩)
          have hi1 := HI1.out
          have hw1 := HW1.out
          go_quiet (fail)
          clear hw1 hi1
          go_wp2
          go_ret2
          exact ⟨by rw [HS.out]; rfl, by repeat (first | exact HW.out | apply pw_below_drewN | apply below_drew)⟩
        · have hxb : ((rd (bytesOf a0) (i : Int)) == last) = false := beq_eq_false_iff_ne.mpr hx
          obtain ⟨run', last', hok⟩ := hst.skip hp hx
          have HOK := Lib.hid hok
          clear hok hx
          go_wp2_with (go_at_call 49; refine (spec_l1due.at HC.out HCC.out hst.trail (by omega) (by omega) true HD.out).mono ?_; rintro e w' ⟨rfl, ⟨nd, rfl⟩⟩)
          have hi1 := HI1.out
          have hw1 := HW1.out
          go_quiet (fail)
          clear hw1 hi1
          go_wp2
          go_roundw
          case rel => exact ⟨i + 1, _, _, _, HOK.out, ⟨Kd.R_below HO.out (by repeat (first | exact Below.refl _ _ | apply pw_below_drewN | apply below_drew))⟩, ⟨by repeat (first | exact HW.out | apply pw_below_drewN | apply below_drew)⟩, ⟨Kd.C_below HC.out (by repeat (first | exact Below.refl _ _ | apply pw_below_drewN | apply below_drew))⟩, ⟨by simpa using HG.out⟩, by go_num⟩
          case measure => simp [intOf]; omega
      · have HD : Hid (decide (run = 5) = false) := Lib.hid (decide_eq_false h5)
        obtain ⟨run', last', hok⟩ := hst.step hp h5
        have HOK := Lib.hid hok
        clear hok
        go_wp2_with (first | (go_at_call 49; refine (spec_l1due.at HC.out HCC.out hst.trail (by have := hst.at_.hi; omega) (by omega) false HD.out).mono ?_; rintro e w' ⟨rfl, ⟨nd, rfl⟩⟩) | (at_builtin; refine Kd.R_append (Kd.int .u8) (w0 := w) w.heap.size rfl (.tmp 23) (.tmp 28) 38 5 (.int .u8 0) 1 rfl Try.underlying38 infoU8 rfl (by decide) (by omega) _ out (rd (bytesOf a0) (i : Int)) [.int .u8 (rd (bytesOf a0) (i : Int))] (fun k => k ≠ w1.heap.size) (fun _ => False) rfl rfl ?aP (fun _ hk => hk.elim) ?aF ?aO ?aB ?aS ?aL ?_; (case aP => exact rfl); (case aF => exact fun k hk => by have := HG.out; simp at hk; omega); (case aO => exact Kd.R_below HO.out (Drawn0.below ⟨⟨nd, rfl⟩⟩)); (case aB => exact pw_below_drewN HW.out nd); (case aS => exact HW.out.size); (case aL => have := HL.out; omega); intro v1 wA ho1 hb1 hg1 hat1; have HO1 := Aside0.mk ho1; have HW1 := Aside0.mk hb1; have HC1 := Lib.hid (C_kept (Kd.C_below HC.out (Drawn0.below ⟨⟨nd, rfl⟩⟩)) hg1 (by have := HG.out; simp; omega) (fun k hk => (HO.out.1 k hk))); have HG1 := Lib.hid (Nat.lt_of_lt_of_le HG.out (by simpa using hg1.size)); clear ho1 hb1 hg1 hat1))
        go_roundw
        case rel => exact ⟨i + 1, _, _, _, HOK.out, HO1, HW1, ⟨HC1.out⟩, ⟨HG1.out⟩, by go_num⟩
        case measure => simp [intOf]; omega
    · have hcv := own_string (P := Try.prog) Try.underlying38 Try.underlying5 Try.underlying9 (Kd.own_of_R HO.out)
      have HS := Lib.hid (hst.at_.over hp)
      clear hst
      go_wp2
      go_ret2
      exact ⟨by rw [HS.out]; rfl, HW.out⟩
theorem spec_Destuff.calls (a0 : ByteArray) (r1 : ByteArray) (r2 : Int) (w : World) (h : spec_Destuff.f a0 = some (r1, r2)) :
    Calls Try.prog 17 #[.string a0] w fun e w' => e = .returned (.tuple #[.string r1, .int .i64 r2]) ∧ Below w.heap.size w w' := by
  have h' : destuffV a0 = (r1, r2) := Option.some.inj h
  unfold destuffV at h'
  by_cases c : a0.size ≤ 4000 ∧ isBits a0 = true
  · rw [if_pos c] at h'
    simp only [Prod.mk.injEq] at h'
    obtain ⟨rfl, rfl⟩ := h'
    exact spec_Destuff.yes a0 _ w c.1 c.2 rfl
  · rw [if_neg c] at h'
    simp only [Prod.mk.injEq] at h'
    obtain ⟨rfl, rfl⟩ := h'
    clear h
    have hbt : Hid ((decide (a0.size ≤ 4000) && isBits a0) = false) := by
      refine Lib.hid ?_
      rw [Bool.and_eq_false_iff]
      by_cases h : isBits a0 = true
      · exact .inl (decide_eq_false fun h2 => c ⟨by omega, h⟩)
      · exact .inr (by simpa using h)
    clear c
    go_enter Try.func17, Try.ntmps17
    go_wp2_with (go_at_call 46; refine (spec_l1okBits.at a0 4000 _ (by omega) false hbt.out).mono ?_; rintro e w1 ⟨rfl, hb1⟩)
    go_ret2
    exact ⟨rfl, hb1⟩

end Go.Proofs.Ytogedkkdhonmlaa.P

namespace Go.Proofs.Ytogedkkdhonmlaa.P
open Go.RowKit Go.Proofs.YtogedkkdhonmlaaW.PrintWords Go.Proofs.YtogedkkdhonmlaaW.PrintLast Go.Proofs.YtogedkkdhonmlaaW.PrintMore
attribute [local go_sem] max2_int min2_int max_two min_two max_three min_three max_four min_four
set_option linter.unusedVariables false
set_option linter.unusedSimpArgs false

/-! ### spec_DestuffRuns: function 31 -/
mutual
def spec_DestuffRuns.j0 : Nat → Int → List Int → Bool → Option (ByteArray × Int)
  | 0, _, _, _ => none
  | k + 1, x0, x1, x16 => if x16 = true then (some ((⟨#[]⟩ : ByteArray), (-2))) else (if (x1.length : Int) > 4000 then (some ((⟨#[]⟩ : ByteArray), (-2))) else (spec_DestuffRuns.l0 k x0 x1 0 0))
def spec_DestuffRuns.l0 : Nat → Int → List Int → Int → Int → Option (ByteArray × Int)
  | 0, _, _, _, _ => none
  | k + 1, x0, x1, x6, x7 => if x7 < (x1.length : Int) then (if 0 ≤ x7 then (if (rd x1 x7) < 1 then (some ((⟨#[]⟩ : ByteArray), (-2))) else (if (rd x1 x7) > (wrap64 (4000 - x6)) then (some ((⟨#[]⟩ : ByteArray), (-2))) else (spec_DestuffRuns.l0 k x0 x1 (wrap64 (x6 + (rd x1 x7))) (wrap64 (x7 + 1))))) else (none)) else (spec_DestuffRuns.l1 k x0 x1 (([] : List Int)) 0)
def spec_DestuffRuns.l1 : Nat → Int → List Int → List Int → Int → Option (ByteArray × Int)
  | 0, _, _, _, _ => none
  | k + 1, x0, x1, x8, x9 => if x9 < (x1.length : Int) then (spec_DestuffRuns.l2 k x0 x1 x8 x9 0) else ((spec_Destuff.f (strOfNums x8)).bind fun bt115 => (some (bt115.1, bt115.2)))
def spec_DestuffRuns.l2 : Nat → Int → List Int → List Int → Int → Int → Option (ByteArray × Int)
  | 0, _, _, _, _, _ => none
  | k + 1, x0, x1, x8, x9, x10 => if 0 ≤ x9 then (if x9 < (x1.length : Int) then (if x10 < (rd x1 x9) then (if x8.length < 140737488355328 then (spec_DestuffRuns.l2 k x0 x1 (x8 ++ [(wrap64 (48 + (Int.tmod (wrap64 (x0 + x9)) 2))) % 256]) x9 (wrap64 (x10 + 1))) else (none)) else (spec_DestuffRuns.l1 k x0 x1 x8 (wrap64 (x9 + 1)))) else (none)) else (none)
end
def spec_DestuffRuns.f (k : Nat) (a0 : Int) (l1 : List Int) : Option (ByteArray × Int) := if a0 = 0 then (spec_DestuffRuns.j0 k a0 l1 false) else (spec_DestuffRuns.j0 k a0 l1 (a0 != 1))
theorem spec_DestuffRuns.mono_l : ∀ k, (∀ y0 y1 y2, LeO (spec_DestuffRuns.j0 k y0 y1 y2) (spec_DestuffRuns.j0 (k + 1) y0 y1 y2)) ∧ (∀ y0 y1 y2 y3, LeO (spec_DestuffRuns.l0 k y0 y1 y2 y3) (spec_DestuffRuns.l0 (k + 1) y0 y1 y2 y3)) ∧ (∀ y0 y1 y2 y3, LeO (spec_DestuffRuns.l1 k y0 y1 y2 y3) (spec_DestuffRuns.l1 (k + 1) y0 y1 y2 y3)) ∧ (∀ y0 y1 y2 y3 y4, LeO (spec_DestuffRuns.l2 k y0 y1 y2 y3 y4) (spec_DestuffRuns.l2 (k + 1) y0 y1 y2 y3 y4))
  | 0 => ⟨fun _ _ _ r h => by simp [spec_DestuffRuns.j0] at h, fun _ _ _ _ r h => by simp [spec_DestuffRuns.l0] at h, fun _ _ _ _ r h => by simp [spec_DestuffRuns.l1] at h, fun _ _ _ _ _ r h => by simp [spec_DestuffRuns.l2] at h⟩
  | k + 1 => by
    obtain ⟨ih0, ih1, ih2, ih3⟩ := spec_DestuffRuns.mono_l k
    refine ⟨?_, ?_, ?_, ?_⟩
    · intro y0 y1 y2
      unfold spec_DestuffRuns.j0
      repeat' first
      | (with_reducible exact ih0 _ _ _)
      | (with_reducible exact ih1 _ _ _ _)
      | (with_reducible exact ih2 _ _ _ _)
      | (with_reducible exact ih3 _ _ _ _ _)
      | (with_reducible exact LeO.refl _)
      | (with_reducible exact LeO.none _)
      | (with_reducible refine LeO.ite ?_ ?_)
      | (with_reducible refine LeO.bind ?_ (fun _ => ?_))
      | exact ih0 _ _ _
      | exact ih1 _ _ _ _
      | exact ih2 _ _ _ _
      | exact ih3 _ _ _ _ _
      | exact LeO.none _
      | refine LeO.ite ?_ ?_
      | refine LeO.bind ?_ (fun _ => ?_)
    · intro y0 y1 y2 y3
      unfold spec_DestuffRuns.l0
      repeat' first
      | (with_reducible exact ih0 _ _ _)
      | (with_reducible exact ih1 _ _ _ _)
      | (with_reducible exact ih2 _ _ _ _)
      | (with_reducible exact ih3 _ _ _ _ _)
      | (with_reducible exact LeO.refl _)
      | (with_reducible exact LeO.none _)
      | (with_reducible refine LeO.ite ?_ ?_)
      | (with_reducible refine LeO.bind ?_ (fun _ => ?_))
      | exact ih0 _ _ _
      | exact ih1 _ _ _ _
      | exact ih2 _ _ _ _
      | exact ih3 _ _ _ _ _
      | exact LeO.none _
      | refine LeO.ite ?_ ?_
      | refine LeO.bind ?_ (fun _ => ?_)
    · intro y0 y1 y2 y3
      unfold spec_DestuffRuns.l1
      repeat' first
      | (with_reducible exact ih0 _ _ _)
      | (with_reducible exact ih1 _ _ _ _)
      | (with_reducible exact ih2 _ _ _ _)
      | (with_reducible exact ih3 _ _ _ _ _)
      | (with_reducible exact LeO.refl _)
      | (with_reducible exact LeO.none _)
      | (with_reducible refine LeO.ite ?_ ?_)
      | (with_reducible refine LeO.bind ?_ (fun _ => ?_))
      | exact ih0 _ _ _
      | exact ih1 _ _ _ _
      | exact ih2 _ _ _ _
      | exact ih3 _ _ _ _ _
      | exact LeO.none _
      | refine LeO.ite ?_ ?_
      | refine LeO.bind ?_ (fun _ => ?_)
    · intro y0 y1 y2 y3 y4
      unfold spec_DestuffRuns.l2
      repeat' first
      | (with_reducible exact ih0 _ _ _)
      | (with_reducible exact ih1 _ _ _ _)
      | (with_reducible exact ih2 _ _ _ _)
      | (with_reducible exact ih3 _ _ _ _ _)
      | (with_reducible exact LeO.refl _)
      | (with_reducible exact LeO.none _)
      | (with_reducible refine LeO.ite ?_ ?_)
      | (with_reducible refine LeO.bind ?_ (fun _ => ?_))
      | exact ih0 _ _ _
      | exact ih1 _ _ _ _
      | exact ih2 _ _ _ _
      | exact ih3 _ _ _ _ _
      | exact LeO.none _
      | refine LeO.ite ?_ ?_
      | refine LeO.bind ?_ (fun _ => ?_)
theorem spec_DestuffRuns.mono : ∀ a0 a1 k, LeO (spec_DestuffRuns.f k a0 a1) (spec_DestuffRuns.f (k + 1) a0 a1) := by
  intro a0 a1 k
  obtain ⟨ih0, ih1, ih2, ih3⟩ := spec_DestuffRuns.mono_l k
  unfold spec_DestuffRuns.f
  repeat' first
      | (with_reducible exact ih0 _ _ _)
      | (with_reducible exact ih1 _ _ _ _)
      | (with_reducible exact ih2 _ _ _ _)
      | (with_reducible exact ih3 _ _ _ _ _)
      | (with_reducible exact LeO.refl _)
      | (with_reducible exact LeO.none _)
      | (with_reducible refine LeO.ite ?_ ?_)
      | (with_reducible refine LeO.bind ?_ (fun _ => ?_))
      | exact ih0 _ _ _
      | exact ih1 _ _ _ _
      | exact ih2 _ _ _ _
      | exact ih3 _ _ _ _ _
      | exact LeO.none _
      | refine LeO.ite ?_ ?_
      | refine LeO.bind ?_ (fun _ => ?_)
set_option maxHeartbeats 8000000 in
set_option maxRecDepth 100000 in
theorem spec_DestuffRuns.calls (k : Nat) (a0 : Int) (A1 : Option Addr) (c1 : Nat) (l1 : List Int) (r1 : ByteArray) (r2 : Int) (w : World) (hr1 : Kd.C (Kd.int .i64) w A1 l1.length l1) (hc1 : l1.length ≤ c1) (h : spec_DestuffRuns.f k a0 l1 = some (r1, r2)) :
    Calls Try.prog 31 #[.int .i64 a0, .slice A1 l1.length c1] w fun e w' => e = .returned (.tuple #[.string r1, .int .i64 r2]) ∧ Below w.heap.size w w' := by
  have HR1 := Aside0.mk hr1
  have HC1 := Aside0.mk hc1
  clear hr1 hc1
  have HB := Aside0.mk (Below.refl w.heap.size w)
  have H : (if a0 = 0 then (spec_DestuffRuns.j0 k a0 l1 false) else (spec_DestuffRuns.j0 k a0 l1 (a0 != 1))) = some (r1, r2) := h
  clear h
  have HC3 := Aside0.mk H
  clear H
  go_enter Try.func31, Try.ntmps31
  go_upto_region 1 with (fail)
  go_cut [16] (fun v16 wc => ∃ (kq : Nat) (x16_2 : Bool), v16 = .bool x16_2 ∧ Aside0 (spec_DestuffRuns.j0 kq a0 l1 x16_2 = some (r1, r2)) ∧ Aside0 (kq ≤ k) ∧ Aside0 (Below w.heap.size w wc))
  case first =>
    have H := HC3.out
    clear HC3
    by_cases c4 : a0 = 0
    · rw [if_pos c4] at H
      have c4b0 : (a0 == 0) = true := beq_iff_eq.mpr c4
      have c4b1 : (a0 != 0) = false := bne_eq_false_iff_eq.mpr c4
      clear c4
      (first | rw [c4b0] | (simp only [i64_w, i32_w]; rw [c4b0]) | skip)
      have H' := Aside0.mk H
      clear H
      go_wp2
      go_meet
      case rel => exact ⟨_, (false), (by first | rfl | (simp; done) | (simp [*]; done)), H', ⟨by first | omega | exact Nat.le_refl _⟩, ⟨by repeat (first | (with_reducible first | exact HB.out | apply below_alloc | apply pw_below_drewN | apply below_drew1) | exact HB.out)⟩⟩
    · rw [if_neg c4] at H
      have c4b0 : (a0 == 0) = false := beq_eq_false_iff_ne.mpr c4
      have c4b1 : (a0 != 0) = true := bne_iff_ne.mpr c4
      (first | rw [c4b0] | (simp only [i64_w, i32_w]; rw [c4b0]) | skip)
      have H' := Aside0.mk H
      clear H
      go_wp2
      go_meet
      case rel => exact ⟨_, ((a0 != 1)), (by first | rfl | (simp; done) | (simp [*]; done)), H', ⟨by first | omega | exact Nat.le_refl _⟩, ⟨by repeat (first | (with_reducible first | exact HB.out | apply below_alloc | apply pw_below_drewN | apply below_drew1) | exact HB.out)⟩⟩
  case rest =>
    clear HC3
    try clear c1
    try clear p2
    try clear c3
    try clear c4
    try clear c4b0
    try clear c4b1
    obtain ⟨kq, x16_2, rfl, HA, HJ2, HB⟩ := hcut
    cases kq with
    | zero => exact absurd HA.out (by simp [spec_DestuffRuns.j0])
    | succ kj2 =>
      have H := HA.out
      clear HA
      simp only [spec_DestuffRuns.j0] at H
      by_cases c5 : x16_2 = true
      · subst c5
        have H1 : (some ((⟨#[]⟩ : ByteArray), (-2))) = some (r1, r2) := by rw [if_pos rfl] at H; exact H
        clear H
        have H := H1
        clear H1
        simp only [Option.some.injEq, Prod.mk.injEq] at H
        obtain ⟨rfl, rfl⟩ := H
        go_wp2
        go_ret2
        exact ⟨by first | rfl | (simp [errW_none, errW_some] <;> rfl) | (simp [*, errW_none, errW_some] <;> rfl), by repeat (first | (with_reducible first | exact HB.out | apply below_alloc | apply pw_below_drewN | apply below_drew1) | exact HB.out)⟩
      · replace c5 := Bool.eq_false_iff.mpr c5
        subst c5
        have H1 : (if (l1.length : Int) > 4000 then (some ((⟨#[]⟩ : ByteArray), (-2))) else (spec_DestuffRuns.l0 kj2 a0 l1 0 0)) = some (r1, r2) := by rw [if_neg (show ¬ (false = true) by decide)] at H; exact H
        clear H
        have H := H1
        clear H1
        by_cases c6 : (l1.length : Int) > 4000
        · rw [if_pos c6] at H
          have c6b0 : decide (4000 < (l1.length : Int)) = true := decide_eq_true c6
          have c6b1 : decide (4000 < l1.length) = true := decide_eq_true (by omega)
          clear c6
          simp only [Option.some.injEq, Prod.mk.injEq] at H
          obtain ⟨rfl, rfl⟩ := H
          go_wp2
          go_ret2
          exact ⟨by first | rfl | (simp [errW_none, errW_some] <;> rfl) | (simp [*, errW_none, errW_some] <;> rfl), by repeat (first | (with_reducible first | exact HB.out | apply below_alloc | apply pw_below_drewN | apply below_drew1) | exact HB.out)⟩
        · rw [if_neg c6] at H
          have c6b0 : decide (4000 < (l1.length : Int)) = false := decide_eq_false c6
          have c6b1 : decide (4000 < l1.length) = false := decide_eq_false (by omega)
          clear c6
          have H' := Aside0.mk H
          clear H
          go_wp2
          go_loopg [6, 7] kj2 (fun kq v6 v7 w' => ∃ (x6_2 : Int) (x7_2 : Int), v6 = .int .i64 x6_2 ∧ v7 = .int .i64 x7_2 ∧ Aside0 (spec_DestuffRuns.l0 kq a0 l1 x6_2 x7_2 = some (r1, r2)) ∧ Aside0 (kq ≤ kj2) ∧ Aside0 (Below w.heap.size w w'))
          case atStart => exact ⟨(0), (0), (by first | rfl | (simp; done) | (simp [*]; done)), (by first | rfl | (simp; done) | (simp [*]; done)), H', ⟨Nat.le_refl _⟩, ⟨by repeat (first | (with_reducible first | exact HB.out | apply below_alloc | apply pw_below_drewN | apply below_drew1) | exact HB.out)⟩⟩
          case round =>
            clear H'
            try clear c1
            try clear p2
            try clear c3
            try clear c4
            try clear c4b0
            try clear c4b1
            try clear c5
            try clear c6
            try clear c6b0
            try clear c6b1
            try clear p2
            obtain ⟨x6_2, x7_2, rfl, rfl, HA, HK2, HB⟩ := hrel
            cases gk with
            | zero => exact absurd HA.out (by simp [spec_DestuffRuns.l0])
            | succ k2 =>
              have H := HA.out
              clear HA
              simp only [spec_DestuffRuns.l0] at H
              by_cases c7 : x7_2 < (l1.length : Int)
              · rw [if_pos c7] at H
                have c7b0 : decide (x7_2 < (l1.length : Int)) = true := decide_eq_true c7
                clear c7
                by_cases c8 : 0 ≤ x7_2
                · rw [if_pos c8] at H
                  have c8b0 : decide (0 ≤ x7_2) = true := decide_eq_true c8
                  clear c8
                  by_cases c9 : (rd l1 x7_2) < 1
                  · rw [if_pos c9] at H
                    have c9b0 : decide ((rd l1 x7_2) < 1) = true := decide_eq_true c9
                    clear c9
                    simp only [Option.some.injEq, Prod.mk.injEq] at H
                    obtain ⟨rfl, rfl⟩ := H
                    have p109 : 0 ≤ (x7_2 : Int) := of_decide_eq_true (by first | (with_reducible assumption) | assumption)
                    have q109 : x7_2 < (l1.length : Int) := of_decide_eq_true (by first | (with_reducible assumption) | assumption)
                    obtain ⟨ad109, e109, hx109_0⟩ := Kd.at_int HR1.out x7_2 p109 q109
                    cases e109
                    replace hx109_0 := (HB.out.cell (World.block_lt_of_cell? w _ hx109_0)).trans hx109_0
                    replace p109 := eq_true p109
                    replace q109 := eq_true q109
                    go_wp2
                    go_ret2
                    exact ⟨by first | rfl | (simp [errW_none, errW_some] <;> rfl) | (simp [*, errW_none, errW_some] <;> rfl), by repeat (first | (with_reducible first | exact HB.out | apply below_alloc | apply pw_below_drewN | apply below_drew1) | exact HB.out)⟩
                  · rw [if_neg c9] at H
                    have c9b0 : decide ((rd l1 x7_2) < 1) = false := decide_eq_false c9
                    clear c9
                    by_cases c10 : (rd l1 x7_2) > (wrap64 (4000 - x6_2))
                    · rw [if_pos c10] at H
                      have c10b0 : decide ((wrap64 (4000 - x6_2)) < (rd l1 x7_2)) = true := decide_eq_true c10
                      clear c10
                      simp only [Option.some.injEq, Prod.mk.injEq] at H
                      obtain ⟨rfl, rfl⟩ := H
                      have p109 : 0 ≤ (x7_2 : Int) := of_decide_eq_true (by first | (with_reducible assumption) | assumption)
                      have q109 : x7_2 < (l1.length : Int) := of_decide_eq_true (by first | (with_reducible assumption) | assumption)
                      obtain ⟨ad109, e109, hx109_0⟩ := Kd.at_int HR1.out x7_2 p109 q109
                      cases e109
                      replace hx109_0 := (HB.out.cell (World.block_lt_of_cell? w _ hx109_0)).trans hx109_0
                      replace p109 := eq_true p109
                      replace q109 := eq_true q109
                      have p110 : 0 ≤ (x7_2 : Int) := of_decide_eq_true (by first | (with_reducible assumption) | assumption)
                      have q110 : x7_2 < (l1.length : Int) := of_decide_eq_true (by first | (with_reducible assumption) | assumption)
                      obtain ⟨ad110, e110, hx110_0⟩ := Kd.at_int HR1.out x7_2 p110 q110
                      obtain rfl : ad109 = ad110 := (by injection e110)
                      replace hx110_0 := (HB.out.cell (World.block_lt_of_cell? w _ hx110_0)).trans hx110_0
                      replace p110 := eq_true p110
                      replace q110 := eq_true q110
                      go_wp2
                      go_ret2
                      exact ⟨by first | rfl | (simp [errW_none, errW_some] <;> rfl) | (simp [*, errW_none, errW_some] <;> rfl), by repeat (first | (with_reducible first | exact HB.out | apply below_alloc | apply pw_below_drewN | apply below_drew1) | exact HB.out)⟩
                    · rw [if_neg c10] at H
                      have c10b0 : decide ((wrap64 (4000 - x6_2)) < (rd l1 x7_2)) = false := decide_eq_false c10
                      clear c10
                      have H' := Aside0.mk H
                      clear H
                      have p109 : 0 ≤ (x7_2 : Int) := of_decide_eq_true (by first | (with_reducible assumption) | assumption)
                      have q109 : x7_2 < (l1.length : Int) := of_decide_eq_true (by first | (with_reducible assumption) | assumption)
                      obtain ⟨ad109, e109, hx109_0⟩ := Kd.at_int HR1.out x7_2 p109 q109
                      cases e109
                      replace hx109_0 := (HB.out.cell (World.block_lt_of_cell? w _ hx109_0)).trans hx109_0
                      replace p109 := eq_true p109
                      replace q109 := eq_true q109
                      have p110 : 0 ≤ (x7_2 : Int) := of_decide_eq_true (by first | (with_reducible assumption) | assumption)
                      have q110 : x7_2 < (l1.length : Int) := of_decide_eq_true (by first | (with_reducible assumption) | assumption)
                      obtain ⟨ad110, e110, hx110_0⟩ := Kd.at_int HR1.out x7_2 p110 q110
                      obtain rfl : ad109 = ad110 := (by injection e110)
                      replace hx110_0 := (HB.out.cell (World.block_lt_of_cell? w _ hx110_0)).trans hx110_0
                      replace p110 := eq_true p110
                      replace q110 := eq_true q110
                      have p111 : 0 ≤ (x7_2 : Int) := of_decide_eq_true (by first | (with_reducible assumption) | assumption)
                      have q111 : x7_2 < (l1.length : Int) := of_decide_eq_true (by first | (with_reducible assumption) | assumption)
                      obtain ⟨ad111, e111, hx111_0⟩ := Kd.at_int HR1.out x7_2 p111 q111
                      obtain rfl : ad109 = ad111 := (by injection e111)
                      replace hx111_0 := (HB.out.cell (World.block_lt_of_cell? w _ hx111_0)).trans hx111_0
                      replace p111 := eq_true p111
                      replace q111 := eq_true q111
                      go_wp2
                      go_roundg k2
                      case measure => have := HJ2.out; have := HK2.out; omega
                      case rel => exact ⟨(wrap64 (x6_2 + (rd l1 x7_2))), (wrap64 (x7_2 + 1)), (by first | rfl | (simp; done) | (simp [*]; done)), (by first | rfl | (simp; done) | (simp [*]; done)), H', ⟨by have := HJ2.out; have := HK2.out; omega⟩, ⟨by repeat (first | (with_reducible first | exact HB.out | apply below_alloc | apply pw_below_drewN | apply below_drew1) | exact HB.out)⟩⟩
                · rw [if_neg c8] at H
                  exact absurd H (by simp)
              · rw [if_neg c7] at H
                have c7b0 : decide (x7_2 < (l1.length : Int)) = false := decide_eq_false c7
                clear c7
                obtain ⟨y112, hy112⟩ : ∃ y_ : List Int, y_ = (([] : List Int)) := ⟨_, rfl⟩
                replace H : (spec_DestuffRuns.l1 k2 a0 l1 y112 0) = some (r1, r2) := by first | (rw [hy112]; with_reducible exact H) | (have H2_ := (Option.bind_some _ _).symm.trans H; rw [hy112]; with_reducible exact H2_) | (have H2_ := (Option.bind_some _ _).symm.trans H; with_reducible exact H2_) | with_reducible exact H | (rw [hy112]; exact H) | exact H
                have Ny112 := Aside0.mk hy112
                clear hy112
                have H' := Aside0.mk H
                clear H
                go_wp2_with (first | ((with_reducible refine gate_dst (N := 46) rfl ?_); refine Kd.R_lit (Kd.int .u8) _ 5 ?hg (N := 46) ?hd (xs := ([] : List Int)) (inner := []) (ok := fun _ => True) (okp := fun _ => True) ?hr ?hp (fun _ hk => hk) trivial (Below.refl _ _) (Nat.le_refl _) (by simp) ?_; (case hd => rfl); (case hg => rfl); (case hr => first | (go_simp; done) | (go_simp; rfl)); (case hp => exact (Reps.none _ _)); intro v113 w11 ho12 hb hg_ hnew_; clear hg_ hnew_; (first | rw [← Ny112.out] at ho12 | (simp only [Int.reduceToNat] at ho12; rw [← Ny112.out] at ho12)); have n0_ := Aside0.mk (Kd.R_lower ho12 (below_size (by repeat (first | (with_reducible first | exact HB.out | apply below_alloc | apply pw_below_drewN | apply below_drew1) | exact HB.out)))); have n1_ := Aside0.mk (below_step (by repeat (first | (with_reducible first | exact HB.out | apply below_alloc | apply pw_below_drewN | apply below_drew1) | exact HB.out)) hb); clear HB; have HO114 := n0_; have HB := n1_; clear n0_ n1_; clear hb ho12))
                go_loopg [8, 9] k2 (fun kq v8 v9 w' => ∃ (x8_3 : List Int) (x9_3 : Int), v9 = .int .i64 x9_3 ∧ Aside0 (spec_DestuffRuns.l1 kq a0 l1 x8_3 x9_3 = some (r1, r2)) ∧ Aside0 (kq ≤ k2) ∧ Aside0 (Kd.R (Kd.int .u8) 5 w' w.heap.size (fun _ => True) v8 x8_3) ∧ Aside0 (Below w.heap.size w w'))
                case atStart => exact ⟨(y112), (0), (by first | rfl | (simp; done) | (simp [*]; done)), H', ⟨Nat.le_refl _⟩, ⟨by (with_reducible repeat (first | apply Kd.R_alloc | apply Kd.R_drewN | apply Kd.R_drew)); exact HO114.out⟩, ⟨by repeat (first | (with_reducible first | exact HB.out | apply below_alloc | apply pw_below_drewN | apply below_drew1) | exact HB.out)⟩⟩
                case round =>
                  clear H'
                  try clear c1
                  try clear p1
                  try clear q1
                  try clear hx1
                  try clear p2
                  try clear c3
                  try clear c4
                  try clear c4b0
                  try clear c4b1
                  try clear c5
                  try clear c6
                  try clear c6b0
                  try clear c6b1
                  try clear p6
                  try clear c7
                  try clear c7b0
                  try clear c8
                  try clear c8b0
                  try clear c9
                  try clear c9b0
                  try clear c10
                  try clear c10b0
                  try clear p10
                  try clear q10
                  try clear hx10
                  try clear p11
                  try clear q11
                  try clear hx11
                  try clear hx109_0
                  try clear hx110_0
                  try clear hx111_0
                  try clear p109
                  try clear p110
                  try clear p111
                  try clear p2
                  try clear q109
                  try clear q110
                  try clear q111
                  obtain ⟨x8_3, x9_3, rfl, HA, HK3, HO_8, HB⟩ := hrel
                  cases gk with
                  | zero => exact absurd HA.out (by simp [spec_DestuffRuns.l1])
                  | succ k3 =>
                    have H := HA.out
                    clear HA
                    simp only [spec_DestuffRuns.l1] at H
                    by_cases c13 : x9_3 < (l1.length : Int)
                    · rw [if_pos c13] at H
                      have c13b0 : decide (x9_3 < (l1.length : Int)) = true := decide_eq_true c13
                      clear c13
                      have H' := Aside0.mk H
                      clear H
                      go_wp2
                      go_loopg [8, 10] k3 (fun kq v8 v10 w' => ∃ (x8_4 : List Int) (x10_4 : Int), v10 = .int .i64 x10_4 ∧ Aside0 (spec_DestuffRuns.l2 kq a0 l1 x8_4 x9_3 x10_4 = some (r1, r2)) ∧ Aside0 (kq ≤ k3) ∧ Aside0 (Kd.R (Kd.int .u8) 5 w' w.heap.size (fun _ => True) v8 x8_4) ∧ Aside0 (Below w.heap.size w w'))
                      case atStart => exact ⟨(x8_3), (0), (by first | rfl | (simp; done) | (simp [*]; done)), H', ⟨Nat.le_refl _⟩, ⟨by (with_reducible repeat (first | apply Kd.R_alloc | apply Kd.R_drewN | apply Kd.R_drew)); exact HO_8.out⟩, ⟨by repeat (first | (with_reducible first | exact HB.out | apply below_alloc | apply pw_below_drewN | apply below_drew1) | exact HB.out)⟩⟩
                      case round =>
                        clear H'
                        try clear c1
                        try clear p1
                        try clear q1
                        try clear hx1
                        try clear p2
                        try clear c3
                        try clear c4
                        try clear c4b0
                        try clear c4b1
                        try clear c5
                        try clear c6
                        try clear c6b0
                        try clear c6b1
                        try clear p6
                        try clear c7
                        try clear c7b0
                        try clear c8
                        try clear c8b0
                        try clear c9
                        try clear c9b0
                        try clear c10
                        try clear c10b0
                        try clear p10
                        try clear q10
                        try clear hx10
                        try clear p11
                        try clear q11
                        try clear hx11
                        try clear c13
                        try clear c13b0
                        try clear hx109_0
                        try clear hx110_0
                        try clear hx111_0
                        try clear p1
                        try clear p10
                        try clear p109
                        try clear p11
                        try clear p110
                        try clear p111
                        try clear p2
                        try clear p6
                        try clear q1
                        try clear q10
                        try clear q109
                        try clear q11
                        try clear q110
                        try clear q111
                        obtain ⟨x8_4, x10_4, rfl, HA, HK4, HO_8, HB⟩ := hrel
                        cases gk with
                        | zero => exact absurd HA.out (by simp [spec_DestuffRuns.l2])
                        | succ k4 =>
                          have H := HA.out
                          clear HA
                          simp only [spec_DestuffRuns.l2] at H
                          by_cases c14 : 0 ≤ x9_3
                          · rw [if_pos c14] at H
                            have c14b0 : decide (0 ≤ x9_3) = true := decide_eq_true c14
                            clear c14
                            by_cases c15 : x9_3 < (l1.length : Int)
                            · rw [if_pos c15] at H
                              have c15b0 : decide (x9_3 < (l1.length : Int)) = true := decide_eq_true c15
                              clear c15
                              by_cases c16 : x10_4 < (rd l1 x9_3)
                              · rw [if_pos c16] at H
                                have c16b0 : decide (x10_4 < (rd l1 x9_3)) = true := decide_eq_true c16
                                clear c16
                                by_cases c17 : x8_4.length < 140737488355328
                                · rw [if_pos c17] at H
                                  have LMc17 := Aside0.mk c17
                                  clear c17
                                  obtain ⟨y118, hy118⟩ : ∃ y_ : List Int, y_ = (x8_4 ++ [(wrap64 (48 + (Int.tmod (wrap64 (a0 + x9_3)) 2))) % 256]) := ⟨_, rfl⟩
                                  replace H : (spec_DestuffRuns.l2 k4 a0 l1 y118 x9_3 (wrap64 (x10_4 + 1))) = some (r1, r2) := by first | (rw [hy118]; with_reducible exact H) | (have H2_ := (Option.bind_some _ _).symm.trans H; rw [hy118]; with_reducible exact H2_) | (have H2_ := (Option.bind_some _ _).symm.trans H; with_reducible exact H2_) | with_reducible exact H | (rw [hy118]; exact H) | exact H
                                  have Ny118 := Aside0.mk hy118
                                  clear hy118
                                  have H' := Aside0.mk H
                                  clear H
                                  have p117 : 0 ≤ (x9_3 : Int) := of_decide_eq_true (by first | (with_reducible assumption) | assumption)
                                  have q117 : x9_3 < (l1.length : Int) := of_decide_eq_true (by first | (with_reducible assumption) | assumption)
                                  obtain ⟨ad117, e117, hx117_0⟩ := Kd.at_int HR1.out x9_3 p117 q117
                                  cases e117
                                  replace hx117_0 := (HB.out.cell (World.block_lt_of_cell? w _ hx117_0)).trans hx117_0
                                  replace p117 := eq_true p117
                                  replace q117 := eq_true q117
                                  go_wp2_with (first | ((with_reducible refine gate_builtin (b := .append) (xs := #[.tmp 61, .tmp 68]) rfl ?_); at_builtin; refine Kd.R_append (Kd.int .u8) (w0 := w) w.heap.size rfl (.tmp 61) (.tmp 68) 38 5 (.int .u8 0) 1 rfl Try.underlying38 info5 rfl (by decide) (by omega) u8 x8_4 ((wrap64 (48 + (Int.tmod (wrap64 (a0 + x9_3)) 2))) % 256) [.int .u8 ((wrap64 (48 + (Int.tmod (wrap64 (a0 + x9_3)) 2))) % 256)] (fun _ => True) (fun _ => False) rfl rfl ?aP (fun _ hk => hk.elim) ?aF ?aO ?aB ?aS ?aL ?_; (case aP => exact rfl); (case aB => exact (by repeat (first | (with_reducible first | exact HB.out | apply below_alloc | apply pw_below_drewN | apply below_drew1) | exact HB.out))); (case aF => exact (fun _ _ => trivial)); (case aO => exact (by (with_reducible repeat (first | apply Kd.R_alloc | apply Kd.R_drewN | apply Kd.R_drew)); exact HO_8.out)); (case aS => exact (below_size (by repeat (first | (with_reducible first | exact HB.out | apply below_alloc | apply pw_below_drewN | apply below_drew1) | exact HB.out)))); (case aL => have := LMc17.out; omega); intro v119 w18 ho hb hg hat; rw [← Ny118.out] at ho; have n0_ := Aside0.mk (hb); have n1_ := Aside0.mk (ho); clear HB; clear HO_8; have HB := n0_; have HO120 := n1_; clear n0_ n1_; clear ho hb hg hat))
                                  go_roundg k4
                                  case measure => have := HJ2.out; have := HK2.out; have := HK3.out; have := HK4.out; omega
                                  case rel => exact ⟨(y118), (wrap64 (x10_4 + 1)), (by first | rfl | (simp; done) | (simp [*]; done)), H', ⟨by have := HJ2.out; have := HK2.out; have := HK3.out; have := HK4.out; omega⟩, ⟨by (with_reducible repeat (first | apply Kd.R_alloc | apply Kd.R_drewN | apply Kd.R_drew)); exact HO120.out⟩, ⟨by repeat (first | (with_reducible first | exact HB.out | apply below_alloc | apply pw_below_drewN | apply below_drew1) | exact HB.out)⟩⟩
                                · rw [if_neg c17] at H
                                  exact absurd H (by simp)
                              · rw [if_neg c16] at H
                                have c16b0 : decide (x10_4 < (rd l1 x9_3)) = false := decide_eq_false c16
                                clear c16
                                have H' := Aside0.mk H
                                clear H
                                have p117 : 0 ≤ (x9_3 : Int) := of_decide_eq_true (by first | (with_reducible assumption) | assumption)
                                have q117 : x9_3 < (l1.length : Int) := of_decide_eq_true (by first | (with_reducible assumption) | assumption)
                                obtain ⟨ad117, e117, hx117_0⟩ := Kd.at_int HR1.out x9_3 p117 q117
                                cases e117
                                replace hx117_0 := (HB.out.cell (World.block_lt_of_cell? w _ hx117_0)).trans hx117_0
                                replace p117 := eq_true p117
                                replace q117 := eq_true q117
                                go_wp2
                                go_roundg k4
                                case measure => have := HJ2.out; have := HK2.out; have := HK3.out; have := HK4.out; omega
                                case rel => exact ⟨(x8_4), (wrap64 (x9_3 + 1)), (by first | rfl | (simp; done) | (simp [*]; done)), H', ⟨by have := HJ2.out; have := HK2.out; have := HK3.out; have := HK4.out; omega⟩, ⟨by (with_reducible repeat (first | apply Kd.R_alloc | apply Kd.R_drewN | apply Kd.R_drew)); exact HO_8.out⟩, ⟨by repeat (first | (with_reducible first | exact HB.out | apply below_alloc | apply pw_below_drewN | apply below_drew1) | exact HB.out)⟩⟩
                            · rw [if_neg c15] at H
                              exact absurd H (by simp)
                          · rw [if_neg c14] at H
                            exact absurd H (by simp)
                    · rw [if_neg c13] at H
                      have c13b0 : decide (x9_3 < (l1.length : Int)) = false := decide_eq_false c13
                      clear c13
                      replace H := Option.bind_eq_some_iff.mp H
                      obtain ⟨⟨t115, t116⟩, A190, H⟩ := H
                      replace H : (some (t115, t116)) = some (r1, r2) := H
                      have A19 := Aside0.mk A190
                      clear A190
                      simp only [Option.some.injEq, Prod.mk.injEq] at H
                      obtain ⟨rfl, rfl⟩ := H
                      have hcv20 := own_string (P := Try.prog) Try.underlying38 Try.underlying5 Try.underlying9 (Kd.own_of_R HO_8.out)
                      go_wp2_with (first | ((with_reducible refine gate_callee (f := 17) rfl ?_); refine goesL_ (some 72) rfl rfl Try.func17 (by kernel_rfl) rfl #[.string (strOfNums x8_3)] rfl (by (try simp only [List.map_toArray, List.map_cons, List.map_nil]); first | done | rfl | (simp only [List.length_drop, List.length_take]; rfl)) ?_; (with_reducible refine (spec_Destuff.calls (strOfNums x8_3) t115 t116 _ A19.out).mono ?_); rintro e w21 ⟨rfl, hb⟩; refine ⟨_, rfl, ?_⟩; have n0_ := Aside0.mk (Kd.R_below (by (with_reducible repeat (first | apply Kd.R_alloc | apply Kd.R_drewN | apply Kd.R_drew)); exact HO_8.out) hb); have n1_ := Aside0.mk (below_step (by repeat (first | (with_reducible first | exact HB.out | apply below_alloc | apply pw_below_drewN | apply below_drew1) | exact HB.out)) hb); clear HO_8; clear HB; have HO_8 := n0_; have HB := n1_; clear n0_ n1_; (try clear hb); (try clear hb2); (try clear hk); (try clear hi)))
                      go_ret2
                      exact ⟨by first | rfl | (simp [errW_none, errW_some] <;> rfl) | (simp [*, errW_none, errW_some] <;> rfl), by repeat (first | (with_reducible first | exact HB.out | apply below_alloc | apply pw_below_drewN | apply below_drew1) | exact HB.out)⟩

end Go.Proofs.Ytogedkkdhonmlaa.P
