import Derived.Test.YtogedkkdhonmlaaProg
import Derived.Below
import Derived.Deep.Draws
import Derived.Deep.AppendLies
import Derived.Maps.AppendAt
import Derived.OwnWalk
import Derived.Laws.BytesArg
import Derived.Laws.MakeOwn
import Derived.Laws.OwnMore
import Derived.Deep.OwnRows
import Derived.Tactics
import Derived.Lib.ConvBytes
import Derived.Laws.Slices
import Derived.WalkKit
import Derived.KernelRfl
import Derived.RowKit3
import Derived.Deep.LoopGhost
import Derived.Deep.QuietTactic
import Derived.BigQuiet
import Derived.WideLaws
import Derived.Deep.DeepCutAuto
import Derived.Deep.CutBlock
import Derived.Deep.RegionHeld3
import Derived.Laws.Rows
import Derived.Lib.AppendStr
import Derived.ArgAppend
import Derived.Laws.IdiomCopy
import Derived.OrdersHeld
import Derived.Laws.BitsLemmas
import Derived.RowKit
import Derived.Test.YtogedkkdhonmlaaWWords
import Derived.Test.YtogedkkdhonmlaaWLast
import Derived.Test.YtogedkkdhonmlaaWTab
import Derived.Test.YtogedkkdhonmlaaWFour
import Derived.Test.YtogedkkdhonmlaaWQPut
import Derived.Test.YtogedkkdhonmlaaWApart
import Derived.Test.YtogedkkdhonmlaaWArr
import Derived.Test.YtogedkkdhonmlaaWZeros
import Derived.Test.YtogedkkdhonmlaaWFoot
import Derived.Test.YtogedkkdhonmlaaWKept
import Derived.Test.YtogedkkdhonmlaaWShare
import Derived.Test.YtogedkkdhonmlaaWN
import Derived.Test.YtogedkkdhonmlaaWFootNe
import Derived.Test.YtogedkkdhonmlaaWAt
import Derived.Test.YtogedkkdhonmlaaWEqStruct
import Derived.Test.YtogedkkdhonmlaaWRepsOne
import Derived.Test.YtogedkkdhonmlaaWInv
import Derived.Test.YtogedkkdhonmlaaWInvWords
import Derived.Test.YtogedkkdhonmlaaWGuard
import Derived.Test.YtogedkkdhonmlaaWNEv
import Derived.Test.YtogedkkdhonmlaaWMore
import Derived.Lib.Hide
import Derived.Laws.RangeAny
import Derived.Lib.OthersKept
import Derived.Laws.BitsAllLaws

namespace Go.Proofs.Ytogedkkdhonmlaa.P
open Go.RowKit Go.Proofs.YtogedkkdhonmlaaW.PrintWords Go.Proofs.YtogedkkdhonmlaaW.PrintLast Go.Proofs.YtogedkkdhonmlaaW.PrintMore
attribute [local go_sem] max2_int min2_int max_two min_two max_three min_three max_four min_four
set_option linter.unusedVariables false
set_option linter.unusedSimpArgs false

def errW : Option Int → Value
  | none => .nilIface
  | some c => .iface 0 (.int .i64 c)
theorem errW_none : errW none = .nilIface := rfl
theorem errW_some (c : Int) : errW (some c) = .iface 0 (.int .i64 c) := rfl

theorem info3 : (Try.prog.info? 3).map (fun i => (i.zero, i.size, i.bytes)) = some (some (.int .i64 0), 1, 8) := by kernel_rfl
theorem info5 : (Try.prog.info? 5).map (fun i => (i.zero, i.size, i.bytes)) = some (some (.int .u8 0), 1, 1) := by kernel_rfl
-- the values' own types

theorem info71 : (Try.prog.info? 71).map (fun i => (i.zero, i.size, i.bytes)) = some (some (.int .u64 0), 1, 8) := by kernel_rfl
def rd_L4 (xs : List (List Int)) (i : Int) : (List Int) := xs.getD i.toNat ([] : List Int)
theorem at_L4 {w : World} {A : Option Addr} {n : Nat} {xs : List (List Int)} (h : Kd.C (Kd.slice 71 (Kd.int .u64)) w A n xs) (i : Int) (h0 : 0 ≤ i) (h1 : i < n) : ∃ ad A0 c0, A = some ad ∧ w.cell? (ad.add i.toNat) = some (.slice A0 (rd_L4 xs i).length c0) ∧ (rd_L4 xs i).length ≤ c0 ∧ (Kd.int .u64).C w A0 (rd_L4 xs i).length (rd_L4 xs i) := by
  obtain ⟨ad, c, e, _, hK, hc0⟩ := Kd.C_get h ([] : List Int) i h0 h1
  have hc : ∀ j u, c[j]? = some u → w.cell? (ad.add (i.toNat * 1 + j)) = some u := hc0
  obtain ⟨A0, c0, rfl, l0, g0⟩ := hK
  exact ⟨ad, A0, c0, e, by have hq := hc 0 _ rfl; rwa [Nat.mul_one, Nat.add_zero] at hq, l0, g0⟩

/-! #### struct type 33 -/
structure S33 where
  f0 : Int
  f1 : (List Int)
def z33 : S33 := ⟨(0 : Int), ([] : List Int)⟩
def k33 : Kd S33 := Kd.iso (Kd.pair (Kd.int .i64) (Kd.slice 71 (Kd.int .u64))) (fun x : S33 => (x.f0, x.f1))
theorem k33_open {w : World} {x : S33} {cs : List Value} (h : k33.K w x cs) : ∃ A1 c1, cs = [.int .i64 x.f0, .slice A1 x.f1.length c1] ∧ x.f1.length ≤ c1 ∧ (Kd.int .u64).C w A1 x.f1.length x.f1 := by
  obtain ⟨_, _, rfl, rfl, ⟨A1, c1, rfl, l1, g1⟩⟩ := h
  exact ⟨A1, c1, rfl, l1, g1⟩
theorem k33_openM {w : World} {base : Nat} {ok : Nat → Prop} {x : S33} {cs : List Value} (h : k33.M w base ok x cs) : ∃ v1, cs = [.int .i64 x.f0, v1] ∧ (Kd.int .u64).R 71 w base ok v1 x.f1 := by
  obtain ⟨_, _, rfl, rfl, ⟨v1, rfl, g1⟩⟩ := h
  exact ⟨v1, rfl, g1⟩
theorem k33_mk (w : World) (x : S33) {A1 : Option Addr} {c1 : Nat} (l1 : x.f1.length ≤ c1) (g1 : (Kd.int .u64).C w A1 x.f1.length x.f1) : k33.K w x [.int .i64 x.f0, .slice A1 x.f1.length c1] := ⟨[.int .i64 x.f0], [.slice A1 x.f1.length c1], rfl, rfl, ⟨A1, c1, rfl, l1, g1⟩⟩
theorem k33_mkM (w : World) (base : Nat) (ok : Nat → Prop) (x : S33) {v1 : Value} (g1 : (Kd.int .u64).R 71 w base ok v1 x.f1) : k33.M w base ok x [.int .i64 x.f0, v1] := ⟨[.int .i64 x.f0], [v1], rfl, rfl, ⟨v1, rfl, g1⟩⟩
def rd_T33 (xs : List S33) (i : Int) : S33 := xs.getD i.toNat z33
theorem at_T33 {w : World} {A : Option Addr} {n : Nat} {xs : List S33} (h : Kd.C k33 w A n xs) (i : Int) (h0 : 0 ≤ i) (h1 : i < n) : ∃ ad A1 c1, A = some ad ∧ w.cell? (ad.add (i.toNat * 2)) = some (.int .i64 (rd_T33 xs i).f0) ∧ w.cell? ⟨(ad.add (i.toNat * 2)).block, (ad.add (i.toNat * 2)).off + 1, none⟩ = some (.slice A1 (rd_T33 xs i).f1.length c1) ∧ (rd_T33 xs i).f1.length ≤ c1 ∧ (Kd.int .u64).C w A1 (rd_T33 xs i).f1.length (rd_T33 xs i).f1 := by
  obtain ⟨ad, c, e, _, hK, hc0⟩ := Kd.C_get h z33 i h0 h1
  have hc : ∀ j u, c[j]? = some u → w.cell? (ad.add (i.toNat * 2 + j)) = some u := hc0
  obtain ⟨A1, c1, rfl, l1, g1⟩ := k33_open hK
  exact ⟨ad, A1, c1, e, hc 0 _ rfl, by rw [← add_field _ _ 1 (by omega)]; exact hc 1 _ rfl, l1, g1⟩

end Go.Proofs.Ytogedkkdhonmlaa.P

namespace Go.Proofs.Ytogedkkdhonmlaa.P
open Go.RowKit Go.Proofs.YtogedkkdhonmlaaW.PrintWords Go.Proofs.YtogedkkdhonmlaaW.PrintLast Go.Proofs.YtogedkkdhonmlaaW.PrintMore
attribute [local go_sem] max2_int min2_int max_two min_two max_three min_three max_four min_four
set_option linter.unusedVariables false
set_option linter.unusedSimpArgs false

/-! ### laws_eqUint64S: function 57 -/
def laws_eqUint64S.l0 : Nat → List Int → List Int → Int → Option (Bool)
  | 0, _, _, _ => none
  | k + 1, x0, x1, x5 => if x5 < (x0.length : Int) then (if 0 ≤ x5 then (if x5 < (x1.length : Int) then (if (rd x0 x5) = (rd x1 x5) then (laws_eqUint64S.l0 k x0 x1 (wrap64 (x5 + 1))) else (some false)) else (none)) else (none)) else (some true)
def laws_eqUint64S.f (k : Nat) (l0 : List Int) (l1 : List Int) : Option (Bool) := if (l0.length : Int) = (l1.length : Int) then (laws_eqUint64S.l0 k l0 l1 0) else (some false)
theorem laws_eqUint64S.mono_l : ∀ k, (∀ y0 y1 y2, LeO (laws_eqUint64S.l0 k y0 y1 y2) (laws_eqUint64S.l0 (k + 1) y0 y1 y2))
  | 0 => fun _ _ _ r h => by simp [laws_eqUint64S.l0] at h
  | k + 1 => by
    have ih0 := laws_eqUint64S.mono_l k
    · intro y0 y1 y2
      unfold laws_eqUint64S.l0
      repeat' first
      | (with_reducible exact ih0 _ _ _)
      | (with_reducible exact LeO.refl _)
      | (with_reducible exact LeO.none _)
      | (with_reducible refine LeO.ite ?_ ?_)
      | (with_reducible refine LeO.bind ?_ (fun _ => ?_))
      | exact ih0 _ _ _
      | exact LeO.none _
      | refine LeO.ite ?_ ?_
      | refine LeO.bind ?_ (fun _ => ?_)
theorem laws_eqUint64S.mono : ∀ a0 a1 k, LeO (laws_eqUint64S.f k a0 a1) (laws_eqUint64S.f (k + 1) a0 a1) := by
  intro a0 a1 k
  have ih0 := laws_eqUint64S.mono_l k
  unfold laws_eqUint64S.f
  repeat' first
      | (with_reducible exact ih0 _ _ _)
      | (with_reducible exact LeO.refl _)
      | (with_reducible exact LeO.none _)
      | (with_reducible refine LeO.ite ?_ ?_)
      | (with_reducible refine LeO.bind ?_ (fun _ => ?_))
      | exact ih0 _ _ _
      | exact LeO.none _
      | refine LeO.ite ?_ ?_
      | refine LeO.bind ?_ (fun _ => ?_)
set_option maxHeartbeats 8000000 in
set_option maxRecDepth 100000 in
theorem laws_eqUint64S.calls (k : Nat) (A0 : Option Addr) (c0 : Nat) (l0 : List Int) (A1 : Option Addr) (c1 : Nat) (l1 : List Int) (r : Bool) (w : World) (hr0 : Kd.C (Kd.int .u64) w A0 l0.length l0) (hc0 : l0.length ≤ c0) (hr1 : Kd.C (Kd.int .u64) w A1 l1.length l1) (hc1 : l1.length ≤ c1) (h : laws_eqUint64S.f k l0 l1 = some r) :
    Calls Try.prog 57 #[.slice A0 l0.length c0, .slice A1 l1.length c1] w fun e w' => e = .returned (.bool r) ∧ Drawn0 w w' := by
  have HR0 := Aside0.mk hr0
  have HC0 := Aside0.mk hc0
  clear hr0 hc0
  have HR1 := Aside0.mk hr1
  have HC1 := Aside0.mk hc1
  clear hr1 hc1
  have H : (if (l0.length : Int) = (l1.length : Int) then (laws_eqUint64S.l0 k l0 l1 0) else (some false)) = some r := h
  clear h
  by_cases c3 : (l0.length : Int) = (l1.length : Int)
  · rw [if_pos c3] at H
    have c3b0 : ((l0.length : Int) == (l1.length : Int)) = true := beq_iff_eq.mpr c3
    have c3b1 : ((l0.length : Int) != (l1.length : Int)) = false := bne_eq_false_iff_eq.mpr c3
    have c3b2 : (l0.length == l1.length) = true := by first | simpa using c3 | (simp at c3 ⊢; omega)
    clear c3
    have H' := Aside0.mk H
    clear H
    go_enter Try.func57, Try.ntmps57
    go_wp2
    repeat (go_quiet (fail); try go_wp2)
    go_loopg [5] k (fun kq v5 w' => ∃ (x5_1 : Int), v5 = .int .i64 x5_1 ∧ Aside0 (laws_eqUint64S.l0 kq l0 l1 x5_1 = some r) ∧ Aside0 (kq ≤ k) ∧ Drawn0 w w')
    case atStart => exact ⟨(0), (by first | rfl | (simp; done) | (simp [*]; done)), H', ⟨Nat.le_refl _⟩, by repeat (first | exact Drawn0.refl _ | apply Drawn0.step)⟩
    case round =>
      clear H'
      try clear c1
      try clear p2
      try clear c3
      try clear c3b0
      try clear c3b1
      try clear c3b2
      obtain ⟨x5_1, rfl, HA, HK1, ⟨m1, rfl⟩⟩ := hrel
      cases gk with
      | zero => exact absurd HA.out (by simp [laws_eqUint64S.l0])
      | succ k1 =>
        have H := HA.out
        clear HA
        simp only [laws_eqUint64S.l0] at H
        by_cases c4 : x5_1 < (l0.length : Int)
        · rw [if_pos c4] at H
          have c4b0 : decide (x5_1 < (l0.length : Int)) = true := decide_eq_true c4
          clear c4
          by_cases c5 : 0 ≤ x5_1
          · rw [if_pos c5] at H
            have c5b0 : decide (0 ≤ x5_1) = true := decide_eq_true c5
            clear c5
            by_cases c6 : x5_1 < (l1.length : Int)
            · rw [if_pos c6] at H
              have c6b0 : decide (x5_1 < (l1.length : Int)) = true := decide_eq_true c6
              clear c6
              by_cases c7 : (rd l0 x5_1) = (rd l1 x5_1)
              · rw [if_pos c7] at H
                have c7b0 : ((rd l0 x5_1) == (rd l1 x5_1)) = true := beq_iff_eq.mpr c7
                have c7b1 : ((rd l0 x5_1) != (rd l1 x5_1)) = false := bne_eq_false_iff_eq.mpr c7
                clear c7
                have H' := Aside0.mk H
                clear H
                have p101 : 0 ≤ (x5_1 : Int) := of_decide_eq_true (by first | (with_reducible assumption) | assumption)
                have q101 : x5_1 < (l0.length : Int) := of_decide_eq_true (by first | (with_reducible assumption) | assumption)
                obtain ⟨ad101, e101, hx101_0⟩ := Kd.at_int HR0.out x5_1 p101 q101
                cases e101
                replace p101 := eq_true p101
                replace q101 := eq_true q101
                have p102 : 0 ≤ (x5_1 : Int) := of_decide_eq_true (by first | (with_reducible assumption) | assumption)
                have q102 : x5_1 < (l1.length : Int) := of_decide_eq_true (by first | (with_reducible assumption) | assumption)
                obtain ⟨ad102, e102, hx102_0⟩ := Kd.at_int HR1.out x5_1 p102 q102
                cases e102
                replace p102 := eq_true p102
                replace q102 := eq_true q102
                go_wp2
                repeat (go_quiet (fail); try go_wp2)
                go_roundg k1
                case measure => have := HK1.out; omega
                case rel => exact ⟨(wrap64 (x5_1 + 1)), (by first | rfl | (simp; done) | (simp [*]; done)), H', ⟨by have := HK1.out; omega⟩, by repeat (first | exact Drawn0.refl _ | apply Drawn0.step)⟩
              · rw [if_neg c7] at H
                have c7b0 : ((rd l0 x5_1) == (rd l1 x5_1)) = false := beq_eq_false_iff_ne.mpr c7
                have c7b1 : ((rd l0 x5_1) != (rd l1 x5_1)) = true := bne_iff_ne.mpr c7
                obtain rfl := Option.some.inj H
                have p101 : 0 ≤ (x5_1 : Int) := of_decide_eq_true (by first | (with_reducible assumption) | assumption)
                have q101 : x5_1 < (l0.length : Int) := of_decide_eq_true (by first | (with_reducible assumption) | assumption)
                obtain ⟨ad101, e101, hx101_0⟩ := Kd.at_int HR0.out x5_1 p101 q101
                cases e101
                replace p101 := eq_true p101
                replace q101 := eq_true q101
                have p102 : 0 ≤ (x5_1 : Int) := of_decide_eq_true (by first | (with_reducible assumption) | assumption)
                have q102 : x5_1 < (l1.length : Int) := of_decide_eq_true (by first | (with_reducible assumption) | assumption)
                obtain ⟨ad102, e102, hx102_0⟩ := Kd.at_int HR1.out x5_1 p102 q102
                cases e102
                replace p102 := eq_true p102
                replace q102 := eq_true q102
                go_wp2
                repeat (go_quiet (fail); try go_wp2)
                go_ret
                exact ⟨by first | rfl | (simp; done) | (simp [*]; done), by repeat (first | exact Drawn0.refl _ | apply Drawn0.step)⟩
            · rw [if_neg c6] at H
              exact absurd H (by simp)
          · rw [if_neg c5] at H
            exact absurd H (by simp)
        · rw [if_neg c4] at H
          have c4b0 : decide (x5_1 < (l0.length : Int)) = false := decide_eq_false c4
          clear c4
          obtain rfl := Option.some.inj H
          go_wp2
          repeat (go_quiet (fail); try go_wp2)
          go_ret
          exact ⟨by first | rfl | (simp; done) | (simp [*]; done), by repeat (first | exact Drawn0.refl _ | apply Drawn0.step)⟩
  · rw [if_neg c3] at H
    have c3b0 : ((l0.length : Int) == (l1.length : Int)) = false := beq_eq_false_iff_ne.mpr c3
    have c3b1 : ((l0.length : Int) != (l1.length : Int)) = true := bne_iff_ne.mpr c3
    have c3b2 : (l0.length == l1.length) = false := by first | simpa using c3 | (simp at c3 ⊢; omega)
    obtain rfl := Option.some.inj H
    go_enter Try.func57, Try.ntmps57
    go_wp2
    repeat (go_quiet (fail); try go_wp2)
    go_ret
    exact ⟨by first | rfl | (simp; done) | (simp [*]; done), by repeat (first | exact Drawn0.refl _ | apply Drawn0.step)⟩

end Go.Proofs.Ytogedkkdhonmlaa.P

namespace Go.Proofs.Ytogedkkdhonmlaa.P
open Go.RowKit Go.Proofs.YtogedkkdhonmlaaW.PrintWords Go.Proofs.YtogedkkdhonmlaaW.PrintLast Go.Proofs.YtogedkkdhonmlaaW.PrintMore
attribute [local go_sem] max2_int min2_int max_two min_two max_three min_three max_four min_four
set_option linter.unusedVariables false
set_option linter.unusedSimpArgs false

/-! ### laws_eqPacked: function 25 -/
def laws_eqPacked.f (k : Nat) (a0_0 : Int) (l0_1 : List Int) (a1_0 : Int) (l1_1 : List Int) : Option (Bool) := if a0_0 = a1_0 then ((laws_eqUint64S.f k l0_1 l1_1).bind fun t105 => (if t105 = true then (some true) else (some false))) else (some false)
theorem laws_eqPacked.mono : ∀ a0 a1 a2 a3 k, LeO (laws_eqPacked.f k a0 a1 a2 a3) (laws_eqPacked.f (k + 1) a0 a1 a2 a3) := by
  intro a0 a1 a2 a3 k
  unfold laws_eqPacked.f
  repeat' first
      | (with_reducible exact laws_eqUint64S.mono _ _ _)
      | (with_reducible exact LeO.refl _)
      | (with_reducible exact LeO.none _)
      | (with_reducible refine LeO.ite ?_ ?_)
      | (with_reducible refine LeO.bind ?_ (fun _ => ?_))
      | exact laws_eqUint64S.mono _ _ _
      | exact LeO.none _
      | refine LeO.ite ?_ ?_
      | refine LeO.bind ?_ (fun _ => ?_)
set_option maxHeartbeats 8000000 in
set_option maxRecDepth 100000 in
theorem laws_eqPacked.calls (k : Nat) (a0_0 : Int) (A0_1 : Option Addr) (c0_1 : Nat) (l0_1 : List Int) (a1_0 : Int) (A1_1 : Option Addr) (c1_1 : Nat) (l1_1 : List Int) (r : Bool) (w : World) (hr0_1 : Kd.C (Kd.int .u64) w A0_1 l0_1.length l0_1) (hc0_1 : l0_1.length ≤ c0_1) (hr1_1 : Kd.C (Kd.int .u64) w A1_1 l1_1.length l1_1) (hc1_1 : l1_1.length ≤ c1_1) (h : laws_eqPacked.f k a0_0 l0_1 a1_0 l1_1 = some r) :
    Calls Try.prog 25 #[.agg #[.int .i64 a0_0, .slice A0_1 l0_1.length c0_1], .agg #[.int .i64 a1_0, .slice A1_1 l1_1.length c1_1]] w fun e w' => e = .returned (.bool r) ∧ Below w.heap.size w w' := by
  have hu33 := Try.underlying33
  have HR0_1 := Aside0.mk hr0_1
  have HC0_1 := Aside0.mk hc0_1
  clear hr0_1 hc0_1
  have HR1_1 := Aside0.mk hr1_1
  have HC1_1 := Aside0.mk hc1_1
  clear hr1_1 hc1_1
  have HB := Aside0.mk (Below.refl w.heap.size w)
  have H : (if a0_0 = a1_0 then ((laws_eqUint64S.f k l0_1 l1_1).bind fun t105 => (if t105 = true then (some true) else (some false))) else (some false)) = some r := h
  clear h
  by_cases c3 : a0_0 = a1_0
  · rw [if_pos c3] at H
    have c3b0 : (a0_0 == a1_0) = true := beq_iff_eq.mpr c3
    have c3b1 : (a0_0 != a1_0) = false := bne_eq_false_iff_eq.mpr c3
    clear c3
    replace H := Option.bind_eq_some_iff.mp H
    obtain ⟨t105, A40, H⟩ := H
    replace H : (if t105 = true then (some true) else (some false)) = some r := H
    have A4 := Aside0.mk A40
    clear A40
    by_cases c5 : t105 = true
    · subst c5
      have H1 : (some true) = some r := by rw [if_pos rfl] at H; exact H
      clear H
      have H := H1
      clear H1
      obtain rfl := Option.some.inj H
      go_enter Try.func25, Try.ntmps25
      go_wp2_with (first | ((with_reducible refine gate_dst (N := 2) rfl ?_); refine box_event ?hg (N := 2) ?hd (cs := #[.int .i64 a0_0, .slice A0_1 l0_1.length c0_1]) (t := 33) ?hr ?_; (case hd => rfl); (case hg => rfl); (case hr => first | (go_simp; done) | (go_simp; rfl)); intro gb103 hg w6 hbox hb; have n0_ := Aside0.mk (below_step (by repeat (first | (with_reducible first | exact HB.out | apply below_alloc | apply pw_below_drewN | apply below_drew1) | exact HB.out)) hb); have n1_ := Aside0.mk (hbox); have n2_ := Aside0.mk ((by rw [hg]; exact (below_size (by repeat (first | (with_reducible first | exact HB.out | apply below_alloc | apply pw_below_drewN | apply below_drew1) | exact HB.out))) : w.heap.size ≤ gb103)); have n3_ := Aside0.mk ((by rw [hg]; exact (below_size (by repeat (first | (with_reducible first | exact HB.out | apply below_alloc | apply pw_below_drewN | apply below_drew1) | exact HB.out))) : w.heap.size ≤ gb103)); clear HB; have HB := n0_; have BK103 := n1_; have GW103 := n2_; have GE103 := n3_; clear n0_ n1_ n2_ n3_; clear hb hbox hg) | ((with_reducible refine gate_dst (N := 3) rfl ?_); refine box_event ?hg (N := 3) ?hd (cs := #[.int .i64 a1_0, .slice A1_1 l1_1.length c1_1]) (t := 33) ?hr ?_; (case hd => rfl); (case hg => rfl); (case hr => first | (go_simp; done) | (go_simp; rfl)); intro gb104 hg w7 hbox hb; have n0_ := Aside0.mk (blk_below (g := gb103) (o := .cells #[.int .i64 a0_0, .slice A0_1 l0_1.length c0_1] 33 (0, 0)) (by (with_reducible repeat (first | refine blk_drewN ?_ _ | refine blk_drew ?_ | refine blk_alloc ?_ _)); exact BK103.out) hb); have n1_ := Aside0.mk (below_step (by repeat (first | (with_reducible first | exact HB.out | apply below_alloc | apply pw_below_drewN | apply below_drew1 | refine below_set ?_ GE103.out) | exact HB.out)) hb); have n2_ := Aside0.mk (hbox); have n3_ := Aside0.mk ((by rw [hg]; exact (below_size (by repeat (first | (with_reducible first | exact HB.out | apply below_alloc | apply pw_below_drewN | apply below_drew1 | refine below_set ?_ GE103.out) | exact HB.out))) : w.heap.size ≤ gb104)); have n4_ := Aside0.mk ((by rw [hg]; exact (below_size (by repeat (first | (with_reducible first | exact HB.out | apply below_alloc | apply pw_below_drewN | apply below_drew1 | refine below_set ?_ GE103.out) | exact HB.out))) : w.heap.size ≤ gb104)); have n5_ := Aside0.mk ((by rw [hg]; exact Nat.ne_of_lt (blk_lt (g := gb103) (o := .cells #[.int .i64 a0_0, .slice A0_1 l0_1.length c0_1] 33 (0, 0)) (by (with_reducible repeat (first | refine blk_drewN ?_ _ | refine blk_drew ?_ | refine blk_alloc ?_ _)); exact BK103.out)) : gb103 ≠ gb104)); have n6_ := Aside0.mk ((by rw [hg]; exact Nat.ne_of_gt (blk_lt (g := gb103) (o := .cells #[.int .i64 a0_0, .slice A0_1 l0_1.length c0_1] 33 (0, 0)) (by (with_reducible repeat (first | refine blk_drewN ?_ _ | refine blk_drew ?_ | refine blk_alloc ?_ _)); exact BK103.out)) : gb104 ≠ gb103)); clear BK103; clear HB; have BK103 := n0_; have HB := n1_; have BK104 := n2_; have GW104 := n3_; have GE104 := n4_; have NB103_104 := n5_; have NB104_103 := n6_; clear n0_ n1_ n2_ n3_ n4_ n5_ n6_; clear hb hbox hg; have hnb8 := NB103_104.out; have hnc8 := NB104_103.out; have hcz9_0 : w7.cell? ⟨gb103, 0, none⟩ = some (.int .i64 a0_0) := (blk_cell BK103.out 0).trans rfl; have hcz9_1 : w7.cell? ⟨gb103, 1, none⟩ = some (.slice A0_1 l0_1.length c0_1) := (blk_cell BK103.out 1).trans rfl; have hfz9_0 := blk_frozen BK103.out 0; have hfz9_1 := blk_frozen BK103.out 1; have hcz10_0 : w7.cell? ⟨gb104, 0, none⟩ = some (.int .i64 a1_0) := (blk_cell BK104.out 0).trans rfl; have hcz10_1 : w7.cell? ⟨gb104, 1, none⟩ = some (.slice A1_1 l1_1.length c1_1) := (blk_cell BK104.out 1).trans rfl; have hfz10_0 := blk_frozen BK104.out 0; have hfz10_1 := blk_frozen BK104.out 1) | ((with_reducible refine gate_callee (f := 57) rfl ?_); refine goesL_ (some 14) rfl rfl Try.func57 (by kernel_rfl) rfl #[.slice A0_1 l0_1.length c0_1, .slice A1_1 l1_1.length c1_1] rfl (by (try simp only [List.map_toArray, List.map_cons, List.map_nil]); first | done | rfl | (simp only [List.length_drop, List.length_take]; rfl)) ?_; (with_reducible refine (laws_eqUint64S.calls k _ _ l0_1 _ _ l1_1 true _ ?side1 ?side2 ?side3 ?side4 A4.out).mono ?_); (case side1 => repeat (first | exact (Kd.C_below HR0_1.out HB.out) | (with_reducible refine Kd.C_alloc ?_ _) | (with_reducible refine Kd.C_drewN ?_ _) | (with_reducible refine Kd.C_drew ?_))); (case side2 => exact HC0_1.out); (case side3 => repeat (first | exact (Kd.C_below HR1_1.out HB.out) | (with_reducible refine Kd.C_alloc ?_ _) | (with_reducible refine Kd.C_drewN ?_ _) | (with_reducible refine Kd.C_drew ?_))); (case side4 => exact HC1_1.out); rintro e w' ⟨rfl, ⟨nd, rfl⟩⟩; refine ⟨_, rfl, ?_⟩))
      go_ret
      exact ⟨by first | rfl | (simp [errW_none, errW_some] <;> rfl) | (simp [*, errW_none, errW_some] <;> rfl), by repeat (first | (with_reducible first | exact HB.out | apply below_alloc | apply pw_below_drewN | apply below_drew1 | refine below_set ?_ GE103.out | refine below_set ?_ GE104.out) | exact HB.out)⟩
    · replace c5 := Bool.eq_false_iff.mpr c5
      subst c5
      have H1 : (some false) = some r := by rw [if_neg (show ¬ (false = true) by decide)] at H; exact H
      clear H
      have H := H1
      clear H1
      obtain rfl := Option.some.inj H
      go_enter Try.func25, Try.ntmps25
      go_wp2_with (first | ((with_reducible refine gate_dst (N := 2) rfl ?_); refine box_event ?hg (N := 2) ?hd (cs := #[.int .i64 a0_0, .slice A0_1 l0_1.length c0_1]) (t := 33) ?hr ?_; (case hd => rfl); (case hg => rfl); (case hr => first | (go_simp; done) | (go_simp; rfl)); intro gb103 hg w11 hbox hb; have n0_ := Aside0.mk (below_step (by repeat (first | (with_reducible first | exact HB.out | apply below_alloc | apply pw_below_drewN | apply below_drew1) | exact HB.out)) hb); have n1_ := Aside0.mk (hbox); have n2_ := Aside0.mk ((by rw [hg]; exact (below_size (by repeat (first | (with_reducible first | exact HB.out | apply below_alloc | apply pw_below_drewN | apply below_drew1) | exact HB.out))) : w.heap.size ≤ gb103)); have n3_ := Aside0.mk ((by rw [hg]; exact (below_size (by repeat (first | (with_reducible first | exact HB.out | apply below_alloc | apply pw_below_drewN | apply below_drew1) | exact HB.out))) : w.heap.size ≤ gb103)); clear HB; have HB := n0_; have BK103 := n1_; have GW103 := n2_; have GE103 := n3_; clear n0_ n1_ n2_ n3_; clear hb hbox hg) | ((with_reducible refine gate_dst (N := 3) rfl ?_); refine box_event ?hg (N := 3) ?hd (cs := #[.int .i64 a1_0, .slice A1_1 l1_1.length c1_1]) (t := 33) ?hr ?_; (case hd => rfl); (case hg => rfl); (case hr => first | (go_simp; done) | (go_simp; rfl)); intro gb104 hg w12 hbox hb; have n0_ := Aside0.mk (blk_below (g := gb103) (o := .cells #[.int .i64 a0_0, .slice A0_1 l0_1.length c0_1] 33 (0, 0)) (by (with_reducible repeat (first | refine blk_drewN ?_ _ | refine blk_drew ?_ | refine blk_alloc ?_ _)); exact BK103.out) hb); have n1_ := Aside0.mk (below_step (by repeat (first | (with_reducible first | exact HB.out | apply below_alloc | apply pw_below_drewN | apply below_drew1 | refine below_set ?_ GE103.out) | exact HB.out)) hb); have n2_ := Aside0.mk (hbox); have n3_ := Aside0.mk ((by rw [hg]; exact (below_size (by repeat (first | (with_reducible first | exact HB.out | apply below_alloc | apply pw_below_drewN | apply below_drew1 | refine below_set ?_ GE103.out) | exact HB.out))) : w.heap.size ≤ gb104)); have n4_ := Aside0.mk ((by rw [hg]; exact (below_size (by repeat (first | (with_reducible first | exact HB.out | apply below_alloc | apply pw_below_drewN | apply below_drew1 | refine below_set ?_ GE103.out) | exact HB.out))) : w.heap.size ≤ gb104)); have n5_ := Aside0.mk ((by rw [hg]; exact Nat.ne_of_lt (blk_lt (g := gb103) (o := .cells #[.int .i64 a0_0, .slice A0_1 l0_1.length c0_1] 33 (0, 0)) (by (with_reducible repeat (first | refine blk_drewN ?_ _ | refine blk_drew ?_ | refine blk_alloc ?_ _)); exact BK103.out)) : gb103 ≠ gb104)); have n6_ := Aside0.mk ((by rw [hg]; exact Nat.ne_of_gt (blk_lt (g := gb103) (o := .cells #[.int .i64 a0_0, .slice A0_1 l0_1.length c0_1] 33 (0, 0)) (by (with_reducible repeat (first | refine blk_drewN ?_ _ | refine blk_drew ?_ | refine blk_alloc ?_ _)); exact BK103.out)) : gb104 ≠ gb103)); clear BK103; clear HB; have BK103 := n0_; have HB := n1_; have BK104 := n2_; have GW104 := n3_; have GE104 := n4_; have NB103_104 := n5_; have NB104_103 := n6_; clear n0_ n1_ n2_ n3_ n4_ n5_ n6_; clear hb hbox hg; have hnb13 := NB103_104.out; have hnc13 := NB104_103.out; have hcz14_0 : w12.cell? ⟨gb103, 0, none⟩ = some (.int .i64 a0_0) := (blk_cell BK103.out 0).trans rfl; have hcz14_1 : w12.cell? ⟨gb103, 1, none⟩ = some (.slice A0_1 l0_1.length c0_1) := (blk_cell BK103.out 1).trans rfl; have hfz14_0 := blk_frozen BK103.out 0; have hfz14_1 := blk_frozen BK103.out 1; have hcz15_0 : w12.cell? ⟨gb104, 0, none⟩ = some (.int .i64 a1_0) := (blk_cell BK104.out 0).trans rfl; have hcz15_1 : w12.cell? ⟨gb104, 1, none⟩ = some (.slice A1_1 l1_1.length c1_1) := (blk_cell BK104.out 1).trans rfl; have hfz15_0 := blk_frozen BK104.out 0; have hfz15_1 := blk_frozen BK104.out 1) | ((with_reducible refine gate_callee (f := 57) rfl ?_); refine goesL_ (some 14) rfl rfl Try.func57 (by kernel_rfl) rfl #[.slice A0_1 l0_1.length c0_1, .slice A1_1 l1_1.length c1_1] rfl (by (try simp only [List.map_toArray, List.map_cons, List.map_nil]); first | done | rfl | (simp only [List.length_drop, List.length_take]; rfl)) ?_; (with_reducible refine (laws_eqUint64S.calls k _ _ l0_1 _ _ l1_1 false _ ?side1 ?side2 ?side3 ?side4 A4.out).mono ?_); (case side1 => repeat (first | exact (Kd.C_below HR0_1.out HB.out) | (with_reducible refine Kd.C_alloc ?_ _) | (with_reducible refine Kd.C_drewN ?_ _) | (with_reducible refine Kd.C_drew ?_))); (case side2 => exact HC0_1.out); (case side3 => repeat (first | exact (Kd.C_below HR1_1.out HB.out) | (with_reducible refine Kd.C_alloc ?_ _) | (with_reducible refine Kd.C_drewN ?_ _) | (with_reducible refine Kd.C_drew ?_))); (case side4 => exact HC1_1.out); rintro e w' ⟨rfl, ⟨nd, rfl⟩⟩; refine ⟨_, rfl, ?_⟩))
      go_ret
      exact ⟨by first | rfl | (simp [errW_none, errW_some] <;> rfl) | (simp [*, errW_none, errW_some] <;> rfl), by repeat (first | (with_reducible first | exact HB.out | apply below_alloc | apply pw_below_drewN | apply below_drew1 | refine below_set ?_ GE103.out | refine below_set ?_ GE104.out) | exact HB.out)⟩
  · rw [if_neg c3] at H
    have c3b0 : (a0_0 == a1_0) = false := beq_eq_false_iff_ne.mpr c3
    have c3b1 : (a0_0 != a1_0) = true := bne_iff_ne.mpr c3
    obtain rfl := Option.some.inj H
    go_enter Try.func25, Try.ntmps25
    go_wp2_with (first | ((with_reducible refine gate_dst (N := 2) rfl ?_); refine box_event ?hg (N := 2) ?hd (cs := #[.int .i64 a0_0, .slice A0_1 l0_1.length c0_1]) (t := 33) ?hr ?_; (case hd => rfl); (case hg => rfl); (case hr => first | (go_simp; done) | (go_simp; rfl)); intro gb103 hg w16 hbox hb; have n0_ := Aside0.mk (below_step (by repeat (first | (with_reducible first | exact HB.out | apply below_alloc | apply pw_below_drewN | apply below_drew1) | exact HB.out)) hb); have n1_ := Aside0.mk (hbox); have n2_ := Aside0.mk ((by rw [hg]; exact (below_size (by repeat (first | (with_reducible first | exact HB.out | apply below_alloc | apply pw_below_drewN | apply below_drew1) | exact HB.out))) : w.heap.size ≤ gb103)); have n3_ := Aside0.mk ((by rw [hg]; exact (below_size (by repeat (first | (with_reducible first | exact HB.out | apply below_alloc | apply pw_below_drewN | apply below_drew1) | exact HB.out))) : w.heap.size ≤ gb103)); clear HB; have HB := n0_; have BK103 := n1_; have GW103 := n2_; have GE103 := n3_; clear n0_ n1_ n2_ n3_; clear hb hbox hg) | ((with_reducible refine gate_dst (N := 3) rfl ?_); refine box_event ?hg (N := 3) ?hd (cs := #[.int .i64 a1_0, .slice A1_1 l1_1.length c1_1]) (t := 33) ?hr ?_; (case hd => rfl); (case hg => rfl); (case hr => first | (go_simp; done) | (go_simp; rfl)); intro gb104 hg w17 hbox hb; have n0_ := Aside0.mk (blk_below (g := gb103) (o := .cells #[.int .i64 a0_0, .slice A0_1 l0_1.length c0_1] 33 (0, 0)) (by (with_reducible repeat (first | refine blk_drewN ?_ _ | refine blk_drew ?_ | refine blk_alloc ?_ _)); exact BK103.out) hb); have n1_ := Aside0.mk (below_step (by repeat (first | (with_reducible first | exact HB.out | apply below_alloc | apply pw_below_drewN | apply below_drew1 | refine below_set ?_ GE103.out) | exact HB.out)) hb); have n2_ := Aside0.mk (hbox); have n3_ := Aside0.mk ((by rw [hg]; exact (below_size (by repeat (first | (with_reducible first | exact HB.out | apply below_alloc | apply pw_below_drewN | apply below_drew1 | refine below_set ?_ GE103.out) | exact HB.out))) : w.heap.size ≤ gb104)); have n4_ := Aside0.mk ((by rw [hg]; exact (below_size (by repeat (first | (with_reducible first | exact HB.out | apply below_alloc | apply pw_below_drewN | apply below_drew1 | refine below_set ?_ GE103.out) | exact HB.out))) : w.heap.size ≤ gb104)); have n5_ := Aside0.mk ((by rw [hg]; exact Nat.ne_of_lt (blk_lt (g := gb103) (o := .cells #[.int .i64 a0_0, .slice A0_1 l0_1.length c0_1] 33 (0, 0)) (by (with_reducible repeat (first | refine blk_drewN ?_ _ | refine blk_drew ?_ | refine blk_alloc ?_ _)); exact BK103.out)) : gb103 ≠ gb104)); have n6_ := Aside0.mk ((by rw [hg]; exact Nat.ne_of_gt (blk_lt (g := gb103) (o := .cells #[.int .i64 a0_0, .slice A0_1 l0_1.length c0_1] 33 (0, 0)) (by (with_reducible repeat (first | refine blk_drewN ?_ _ | refine blk_drew ?_ | refine blk_alloc ?_ _)); exact BK103.out)) : gb104 ≠ gb103)); clear BK103; clear HB; have BK103 := n0_; have HB := n1_; have BK104 := n2_; have GW104 := n3_; have GE104 := n4_; have NB103_104 := n5_; have NB104_103 := n6_; clear n0_ n1_ n2_ n3_ n4_ n5_ n6_; clear hb hbox hg; have hnb18 := NB103_104.out; have hnc18 := NB104_103.out; have hcz19_0 : w17.cell? ⟨gb103, 0, none⟩ = some (.int .i64 a0_0) := (blk_cell BK103.out 0).trans rfl; have hcz19_1 : w17.cell? ⟨gb103, 1, none⟩ = some (.slice A0_1 l0_1.length c0_1) := (blk_cell BK103.out 1).trans rfl; have hfz19_0 := blk_frozen BK103.out 0; have hfz19_1 := blk_frozen BK103.out 1; have hcz20_0 : w17.cell? ⟨gb104, 0, none⟩ = some (.int .i64 a1_0) := (blk_cell BK104.out 0).trans rfl; have hcz20_1 : w17.cell? ⟨gb104, 1, none⟩ = some (.slice A1_1 l1_1.length c1_1) := (blk_cell BK104.out 1).trans rfl; have hfz20_0 := blk_frozen BK104.out 0; have hfz20_1 := blk_frozen BK104.out 1))
    go_ret
    exact ⟨by first | rfl | (simp [errW_none, errW_some] <;> rfl) | (simp [*, errW_none, errW_some] <;> rfl), by repeat (first | (with_reducible first | exact HB.out | apply below_alloc | apply pw_below_drewN | apply below_drew1 | refine below_set ?_ GE103.out | refine below_set ?_ GE104.out) | exact HB.out)⟩

end Go.Proofs.Ytogedkkdhonmlaa.P

namespace Go.Proofs.Ytogedkkdhonmlaa.P
open Go.RowKit Go.Proofs.YtogedkkdhonmlaaW.PrintWords Go.Proofs.YtogedkkdhonmlaaW.PrintLast Go.Proofs.YtogedkkdhonmlaaW.PrintMore
attribute [local go_sem] max2_int min2_int max_two min_two max_three min_three max_four min_four
set_option linter.unusedVariables false
set_option linter.unusedSimpArgs false

/-! ### spec_l1okBits: function 46 -/
def spec_l1okBits.l0 : Nat → ByteArray → Int → Option (Bool)
  | 0, _, _ => none
  | k + 1, x0, x5 => if x5 < (x0.size : Int) then (if 0 ≤ x5 then (if (bt x0 x5) = 48 then (spec_l1okBits.l0 k x0 (wrap64 (x5 + 1))) else (if (bt x0 x5) = 49 then (spec_l1okBits.l0 k x0 (wrap64 (x5 + 1))) else (some false))) else (none)) else (some true)
def spec_l1okBits.f (k : Nat) (a0 : ByteArray) (a1 : Int) : Option (Bool) := if (a0.size : Int) > a1 then (some false) else (spec_l1okBits.l0 k a0 0)
theorem spec_l1okBits.mono_l : ∀ k, (∀ y0 y1, LeO (spec_l1okBits.l0 k y0 y1) (spec_l1okBits.l0 (k + 1) y0 y1))
  | 0 => fun _ _ r h => by simp [spec_l1okBits.l0] at h
  | k + 1 => by
    have ih0 := spec_l1okBits.mono_l k
    · intro y0 y1
      unfold spec_l1okBits.l0
      repeat' first
      | (with_reducible exact ih0 _ _)
      | (with_reducible exact LeO.refl _)
      | (with_reducible exact LeO.none _)
      | (with_reducible refine LeO.ite ?_ ?_)
      | (with_reducible refine LeO.bind ?_ (fun _ => ?_))
      | exact ih0 _ _
      | exact LeO.none _
      | refine LeO.ite ?_ ?_
      | refine LeO.bind ?_ (fun _ => ?_)
theorem spec_l1okBits.mono : ∀ a0 a1 k, LeO (spec_l1okBits.f k a0 a1) (spec_l1okBits.f (k + 1) a0 a1) := by
  intro a0 a1 k
  have ih0 := spec_l1okBits.mono_l k
  unfold spec_l1okBits.f
  repeat' first
      | (with_reducible exact ih0 _ _)
      | (with_reducible exact LeO.refl _)
      | (with_reducible exact LeO.none _)
      | (with_reducible refine LeO.ite ?_ ?_)
      | (with_reducible refine LeO.bind ?_ (fun _ => ?_))
      | exact ih0 _ _
      | exact LeO.none _
      | refine LeO.ite ?_ ?_
      | refine LeO.bind ?_ (fun _ => ?_)
set_option maxHeartbeats 8000000 in
set_option maxRecDepth 100000 in
theorem spec_l1okBits.calls (k : Nat) (a0 : ByteArray) (a1 : Int) (r : Bool) (w : World) (h : spec_l1okBits.f k a0 a1 = some r) :
    Calls Try.prog 46 #[.string a0, .int .i64 a1] w fun e w' => e = .returned (.bool r) ∧ Drawn0 w w' := by
  have H : (if (a0.size : Int) > a1 then (some false) else (spec_l1okBits.l0 k a0 0)) = some r := h
  clear h
  by_cases c3 : (a0.size : Int) > a1
  · rw [if_pos c3] at H
    have c3b0 : decide (a1 < (a0.size : Int)) = true := decide_eq_true c3
    clear c3
    obtain rfl := Option.some.inj H
    go_enter Try.func46, Try.ntmps46
    go_wp2
    go_ret
    exact ⟨by first | rfl | (simp; done) | (simp [*]; done), by repeat (first | exact Drawn0.refl _ | apply Drawn0.step)⟩
  · rw [if_neg c3] at H
    have c3b0 : decide (a1 < (a0.size : Int)) = false := decide_eq_false c3
    clear c3
    have H' := Aside0.mk H
    clear H
    go_enter Try.func46, Try.ntmps46
    go_wp2
    go_loopg [5] k (fun kq v5 w' => ∃ (x5_1 : Int), v5 = .int .i64 x5_1 ∧ Aside0 (spec_l1okBits.l0 kq a0 x5_1 = some r) ∧ Aside0 (kq ≤ k) ∧ Drawn0 w w')
    case atStart => exact ⟨(0), (by first | rfl | (simp; done) | (simp [*]; done)), H', ⟨Nat.le_refl _⟩, by repeat (first | exact Drawn0.refl _ | apply Drawn0.step)⟩
    case round =>
      clear H'
      try clear p2
      try clear c3
      try clear c3b0
      obtain ⟨x5_1, rfl, HA, HK1, ⟨m1, rfl⟩⟩ := hrel
      cases gk with
      | zero => exact absurd HA.out (by simp [spec_l1okBits.l0])
      | succ k1 =>
        have H := HA.out
        clear HA
        simp only [spec_l1okBits.l0] at H
        by_cases c4 : x5_1 < (a0.size : Int)
        · rw [if_pos c4] at H
          have c4b0 : decide (x5_1 < (a0.size : Int)) = true := decide_eq_true c4
          clear c4
          by_cases c5 : 0 ≤ x5_1
          · rw [if_pos c5] at H
            have c5b0 : decide (0 ≤ x5_1) = true := decide_eq_true c5
            clear c5
            by_cases c7 : (bt a0 x5_1) = 48
            · rw [if_pos c7] at H
              have c7b0 : ((bt a0 x5_1) == 48) = true := beq_iff_eq.mpr c7
              have c7b1 : ((bt a0 x5_1) != 48) = false := bne_eq_false_iff_eq.mpr c7
              clear c7
              have H' := Aside0.mk H
              clear H
              have p6 : 0 ≤ (x5_1 : Int) := of_decide_eq_true (by first | (with_reducible assumption) | assumption)
              have q6 : x5_1 < (a0.size : Int) := of_decide_eq_true (by first | (with_reducible assumption) | assumption)
              have hx6 := bt_at a0 x5_1
              replace p6 := eq_true p6
              replace q6 := eq_true q6
              go_wp2
              go_roundg k1
              case measure => have := HK1.out; omega
              case rel => exact ⟨(wrap64 (x5_1 + 1)), (by first | rfl | (simp; done) | (simp [*]; done)), H', ⟨by have := HK1.out; omega⟩, by repeat (first | exact Drawn0.refl _ | apply Drawn0.step)⟩
            · rw [if_neg c7] at H
              have c7b0 : ((bt a0 x5_1) == 48) = false := beq_eq_false_iff_ne.mpr c7
              have c7b1 : ((bt a0 x5_1) != 48) = true := bne_iff_ne.mpr c7
              by_cases c9 : (bt a0 x5_1) = 49
              · rw [if_pos c9] at H
                have c9b0 : ((bt a0 x5_1) == 49) = true := beq_iff_eq.mpr c9
                have c9b1 : ((bt a0 x5_1) != 49) = false := bne_eq_false_iff_eq.mpr c9
                clear c9
                have H' := Aside0.mk H
                clear H
                have p6 : 0 ≤ (x5_1 : Int) := of_decide_eq_true (by first | (with_reducible assumption) | assumption)
                have q6 : x5_1 < (a0.size : Int) := of_decide_eq_true (by first | (with_reducible assumption) | assumption)
                have hx6 := bt_at a0 x5_1
                replace p6 := eq_true p6
                replace q6 := eq_true q6
                have p8 : 0 ≤ (x5_1 : Int) := of_decide_eq_true (by first | (with_reducible assumption) | assumption)
                have q8 : x5_1 < (a0.size : Int) := of_decide_eq_true (by first | (with_reducible assumption) | assumption)
                have hx8 := bt_at a0 x5_1
                replace p8 := eq_true p8
                replace q8 := eq_true q8
                go_wp2
                go_roundg k1
                case measure => have := HK1.out; omega
                case rel => exact ⟨(wrap64 (x5_1 + 1)), (by first | rfl | (simp; done) | (simp [*]; done)), H', ⟨by have := HK1.out; omega⟩, by repeat (first | exact Drawn0.refl _ | apply Drawn0.step)⟩
              · rw [if_neg c9] at H
                have c9b0 : ((bt a0 x5_1) == 49) = false := beq_eq_false_iff_ne.mpr c9
                have c9b1 : ((bt a0 x5_1) != 49) = true := bne_iff_ne.mpr c9
                obtain rfl := Option.some.inj H
                have p6 : 0 ≤ (x5_1 : Int) := of_decide_eq_true (by first | (with_reducible assumption) | assumption)
                have q6 : x5_1 < (a0.size : Int) := of_decide_eq_true (by first | (with_reducible assumption) | assumption)
                have hx6 := bt_at a0 x5_1
                replace p6 := eq_true p6
                replace q6 := eq_true q6
                have p8 : 0 ≤ (x5_1 : Int) := of_decide_eq_true (by first | (with_reducible assumption) | assumption)
                have q8 : x5_1 < (a0.size : Int) := of_decide_eq_true (by first | (with_reducible assumption) | assumption)
                have hx8 := bt_at a0 x5_1
                replace p8 := eq_true p8
                replace q8 := eq_true q8
                go_wp2
                go_ret
                exact ⟨by first | rfl | (simp; done) | (simp [*]; done), by repeat (first | exact Drawn0.refl _ | apply Drawn0.step)⟩
          · rw [if_neg c5] at H
            exact absurd H (by simp)
        · rw [if_neg c4] at H
          have c4b0 : decide (x5_1 < (a0.size : Int)) = false := decide_eq_false c4
          clear c4
          obtain rfl := Option.some.inj H
          go_wp2
          go_ret
          exact ⟨by first | rfl | (simp; done) | (simp [*]; done), by repeat (first | exact Drawn0.refl _ | apply Drawn0.step)⟩

end Go.Proofs.Ytogedkkdhonmlaa.P

namespace Go.Proofs.Ytogedkkdhonmlaa.P
open Go.RowKit Go.Proofs.YtogedkkdhonmlaaW.PrintWords Go.Proofs.YtogedkkdhonmlaaW.PrintLast Go.Proofs.YtogedkkdhonmlaaW.PrintMore
attribute [local go_sem] max2_int min2_int max_two min_two max_three min_three max_four min_four
set_option linter.unusedVariables false
set_option linter.unusedSimpArgs false

/-! ### spec_Pack: function 35 -/
mutual
def spec_Pack.l0 : Nat → ByteArray → List Int → Int → Option (Int × List Int)
  | 0, _, _, _ => none
  | k + 1, x0, x3, x4 => if (wrap64 (64 * x4)) < (x0.size : Int) then (spec_Pack.l1 k x0 x3 x4 0 0) else (some ((x0.size : Int), x3))
def spec_Pack.l1 : Nat → ByteArray → List Int → Int → Int → Int → Option (Int × List Int)
  | 0, _, _, _, _, _ => none
  | k + 1, x0, x3, x4, x5, x6 => if x6 < 64 then (if (wrap64 ((wrap64 (64 * x4)) + x6)) < (x0.size : Int) then (if 0 ≤ (wrap64 ((wrap64 (64 * x4)) + x6)) then (if (bt x0 (wrap64 ((wrap64 (64 * x4)) + x6))) = 49 then (spec_Pack.l1 k x0 x3 x4 (IntKind.u64.wrap ((IntKind.u64.wrap (2 * x5)) + 1)) (wrap64 (x6 + 1))) else (spec_Pack.l1 k x0 x3 x4 (IntKind.u64.wrap (2 * x5)) (wrap64 (x6 + 1)))) else (none)) else (spec_Pack.l1 k x0 x3 x4 (IntKind.u64.wrap (2 * x5)) (wrap64 (x6 + 1)))) else (if x3.length < 17592186044416 then (spec_Pack.l0 k x0 (x3 ++ [x5]) (wrap64 (x4 + 1))) else (none))
end
def spec_Pack.f (k : Nat) (a0 : ByteArray) : Option (Int × List Int) := (spec_l1okBits.f k a0 4000).bind fun t107 => (if t107 = true then (spec_Pack.l0 k a0 (([] : List Int)) 0) else (some (0, ([] : List Int))))
theorem spec_Pack.mono_l : ∀ k, (∀ y0 y1 y2, LeO (spec_Pack.l0 k y0 y1 y2) (spec_Pack.l0 (k + 1) y0 y1 y2)) ∧ (∀ y0 y1 y2 y3 y4, LeO (spec_Pack.l1 k y0 y1 y2 y3 y4) (spec_Pack.l1 (k + 1) y0 y1 y2 y3 y4))
  | 0 => ⟨fun _ _ _ r h => by simp [spec_Pack.l0] at h, fun _ _ _ _ _ r h => by simp [spec_Pack.l1] at h⟩
  | k + 1 => by
    obtain ⟨ih0, ih1⟩ := spec_Pack.mono_l k
    refine ⟨?_, ?_⟩
    · intro y0 y1 y2
      unfold spec_Pack.l0
      repeat' first
      | (with_reducible exact ih0 _ _ _)
      | (with_reducible exact ih1 _ _ _ _ _)
      | (with_reducible exact spec_l1okBits.mono _ _ _)
      | (with_reducible exact LeO.refl _)
      | (with_reducible exact LeO.none _)
      | (with_reducible refine LeO.ite ?_ ?_)
      | (with_reducible refine LeO.bind ?_ (fun _ => ?_))
      | exact ih0 _ _ _
      | exact ih1 _ _ _ _ _
      | exact spec_l1okBits.mono _ _ _
      | exact LeO.none _
      | refine LeO.ite ?_ ?_
      | refine LeO.bind ?_ (fun _ => ?_)
    · intro y0 y1 y2 y3 y4
      unfold spec_Pack.l1
      repeat' first
      | (with_reducible exact ih0 _ _ _)
      | (with_reducible exact ih1 _ _ _ _ _)
      | (with_reducible exact spec_l1okBits.mono _ _ _)
      | (with_reducible exact LeO.refl _)
      | (with_reducible exact LeO.none _)
      | (with_reducible refine LeO.ite ?_ ?_)
      | (with_reducible refine LeO.bind ?_ (fun _ => ?_))
      | exact ih0 _ _ _
      | exact ih1 _ _ _ _ _
      | exact spec_l1okBits.mono _ _ _
      | exact LeO.none _
      | refine LeO.ite ?_ ?_
      | refine LeO.bind ?_ (fun _ => ?_)
theorem spec_Pack.mono : ∀ a0 k, LeO (spec_Pack.f k a0) (spec_Pack.f (k + 1) a0) := by
  intro a0 k
  obtain ⟨ih0, ih1⟩ := spec_Pack.mono_l k
  unfold spec_Pack.f
  repeat' first
      | (with_reducible exact ih0 _ _ _)
      | (with_reducible exact ih1 _ _ _ _ _)
      | (with_reducible exact spec_l1okBits.mono _ _ _)
      | (with_reducible exact LeO.refl _)
      | (with_reducible exact LeO.none _)
      | (with_reducible refine LeO.ite ?_ ?_)
      | (with_reducible refine LeO.bind ?_ (fun _ => ?_))
      | exact ih0 _ _ _
      | exact ih1 _ _ _ _ _
      | exact spec_l1okBits.mono _ _ _
      | exact LeO.none _
      | refine LeO.ite ?_ ?_
      | refine LeO.bind ?_ (fun _ => ?_)
set_option maxHeartbeats 8000000 in
set_option maxRecDepth 100000 in
theorem spec_Pack.calls (k : Nat) (a0 : ByteArray) (r1 : Int) (r2 : List Int) (w : World) (h : spec_Pack.f k a0 = some (r1, r2)) :
    Calls Try.prog 35 #[.string a0] w fun e w' => ∃ v1_ : Value, e = .returned (.agg #[.int .i64 r1, v1_]) ∧ Kd.R (Kd.int .u64) 71 w' w.heap.size (fun _ => True) v1_ r2 ∧ Below w.heap.size w w' := by
  have hu33 := Try.underlying33
  have HB := Aside0.mk (Below.refl w.heap.size w)
  have H : ((spec_l1okBits.f k a0 4000).bind fun t107 => (if t107 = true then (spec_Pack.l0 k a0 (([] : List Int)) 0) else (some (0, ([] : List Int))))) = some (r1, r2) := h
  clear h
  replace H := Option.bind_eq_some_iff.mp H
  obtain ⟨t107, A20, H⟩ := H
  replace H : (if t107 = true then (spec_Pack.l0 k a0 (([] : List Int)) 0) else (some (0, ([] : List Int)))) = some (r1, r2) := H
  have A2 := Aside0.mk A20
  clear A20
  by_cases c3 : t107 = true
  · subst c3
    have H1 : (spec_Pack.l0 k a0 (([] : List Int)) 0) = some (r1, r2) := by rw [if_pos rfl] at H; exact H
    clear H
    have H := H1
    clear H1
    obtain ⟨y108, hy108⟩ : ∃ y_ : List Int, y_ = (([] : List Int)) := ⟨_, rfl⟩
    replace H : (spec_Pack.l0 k a0 y108 0) = some (r1, r2) := by first | (rw [hy108]; with_reducible exact H) | (have H2_ := (Option.bind_some _ _).symm.trans H; rw [hy108]; with_reducible exact H2_) | (have H2_ := (Option.bind_some _ _).symm.trans H; with_reducible exact H2_) | with_reducible exact H | (rw [hy108]; exact H) | exact H
    have Ny108 := Aside0.mk hy108
    clear hy108
    have H' := Aside0.mk H
    clear H
    go_enter Try.func35, Try.ntmps35
    go_wp2_with (first | ((with_reducible refine gate_dst (N := 2) rfl ?_); refine box_event ?hg (N := 2) ?hd (cs := #[.int .i64 0, .slice none 0 0]) (t := 33) ?hr ?_; (case hd => rfl); (case hg => rfl); (case hr => first | (go_simp; done) | (go_simp; rfl)); intro gb106 hg w4 hbox hb; have n0_ := Aside0.mk (below_step (by repeat (first | (with_reducible first | exact HB.out | apply below_alloc | apply pw_below_drewN | apply below_drew1) | exact HB.out)) hb); have n1_ := Aside0.mk (hbox); have n2_ := Aside0.mk ((by rw [hg]; exact (below_size (by repeat (first | (with_reducible first | exact HB.out | apply below_alloc | apply pw_below_drewN | apply below_drew1) | exact HB.out))) : w.heap.size ≤ gb106)); have n3_ := Aside0.mk ((by rw [hg]; exact (below_size (by repeat (first | (with_reducible first | exact HB.out | apply below_alloc | apply pw_below_drewN | apply below_drew1) | exact HB.out))) : w.heap.size ≤ gb106)); clear HB; have HB := n0_; have BK106 := n1_; have GW106 := n2_; have GE106 := n3_; clear n0_ n1_ n2_ n3_; clear hb hbox hg) | ((with_reducible refine gate_callee (f := 46) rfl ?_); refine goesL_ (some 8) rfl rfl Try.func46 (by kernel_rfl) rfl #[.string a0, .int .i64 4000] rfl (by (try simp only [List.map_toArray, List.map_cons, List.map_nil]); first | done | rfl | (simp only [List.length_drop, List.length_take]; rfl)) ?_; (with_reducible refine (spec_l1okBits.calls k a0 4000 true _ A2.out).mono ?_); rintro e w' ⟨rfl, ⟨nd, rfl⟩⟩; refine ⟨_, rfl, ?_⟩) | ((with_reducible refine gate_dst (N := 11) rfl ?_); refine Kd.R_lit (Kd.int .u64) _ 71 ?hg (N := 11) ?hd (xs := ([] : List Int)) (inner := []) (ok := fun _ => True) (okp := fun _ => True) ?hr ?hp (fun _ hk => hk) trivial (Below.refl _ _) (Nat.le_refl _) (by simp) ?_; (case hd => rfl); (case hg => rfl); (case hr => first | (go_simp; done) | (go_simp; rfl)); (case hp => exact (Reps.none _ _)); intro v109 w5 ho6 hb hg_ hnew_; clear hg_ hnew_; (first | rw [← Ny108.out] at ho6 | (simp only [Int.reduceToNat] at ho6; rw [← Ny108.out] at ho6)); have n0_ := Aside0.mk (Kd.R_lower ho6 (below_size (by repeat (first | (with_reducible first | exact HB.out | apply below_alloc | apply pw_below_drewN | apply below_drew1 | refine below_set ?_ GE106.out) | exact HB.out)))); have n1_ := Aside0.mk (blk_below (g := gb106) (o := .cells #[.int .i64 0, .slice none 0 0] 33 (0, 0)) (by (with_reducible repeat (first | refine blk_drewN ?_ _ | refine blk_drew ?_ | refine blk_alloc ?_ _)); exact BK106.out) hb); have n2_ := Aside0.mk (below_step (by repeat (first | (with_reducible first | exact HB.out | apply below_alloc | apply pw_below_drewN | apply below_drew1 | refine below_set ?_ GE106.out) | exact HB.out)) hb); clear BK106; clear HB; have HO110 := n0_; have BK106 := n1_; have HB := n2_; clear n0_ n1_ n2_; clear hb ho6))
    go_loopg [3, 4] k (fun kq v3 v4 w' => ∃ (x3_1 : List Int) (x4_1 : Int), v4 = .int .i64 x4_1 ∧ Aside0 (spec_Pack.l0 kq a0 x3_1 x4_1 = some (r1, r2)) ∧ Aside0 (kq ≤ k) ∧ Aside0 (Kd.R (Kd.int .u64) 71 w' w.heap.size (fun _ => True) v3 x3_1) ∧ Aside0 (w'.heap[gb106]? = some (.cells #[.int .i64 0, (.slice none 0 0)] 33 (0, 0))) ∧ Aside0 (Below w.heap.size w w'))
    case atStart => exact ⟨(y108), (0), (by first | rfl | (simp; done) | (simp [*]; done)), H', ⟨Nat.le_refl _⟩, ⟨by (with_reducible repeat (first | apply Kd.R_alloc | apply Kd.R_drewN | apply Kd.R_drew)); exact HO110.out⟩, ⟨by (with_reducible repeat (first | refine blk_drewN ?_ _ | refine blk_drew ?_ | refine blk_alloc ?_ _)); exact BK106.out⟩, ⟨by repeat (first | (with_reducible first | exact HB.out | apply below_alloc | apply pw_below_drewN | apply below_drew1 | refine below_set ?_ GE106.out) | exact HB.out)⟩⟩
    case round =>
      clear H'
      try clear p2
      try clear c3
      try clear c4
      obtain ⟨x3_1, x4_1, rfl, HA, HK1, HO_3, BK106, HB⟩ := hrel
      cases gk with
      | zero => exact absurd HA.out (by simp [spec_Pack.l0])
      | succ k1 =>
        have H := HA.out
        clear HA
        simp only [spec_Pack.l0] at H
        by_cases c7 : (wrap64 (64 * x4_1)) < (a0.size : Int)
        · rw [if_pos c7] at H
          have c7b0 : decide ((wrap64 (64 * x4_1)) < (a0.size : Int)) = true := decide_eq_true c7
          clear c7
          have H' := Aside0.mk H
          clear H
          go_wp2
          go_loopg [5, 6] k1 (fun kq v5 v6 w' => ∃ (x5_2 : Int) (x6_2 : Int), v5 = .int .u64 x5_2 ∧ v6 = .int .i64 x6_2 ∧ Aside0 (spec_Pack.l1 kq a0 x3_1 x4_1 x5_2 x6_2 = some (r1, r2)) ∧ Aside0 (kq ≤ k1) ∧ Aside0 (Kd.R (Kd.int .u64) 71 w' w.heap.size (fun _ => True) u3 x3_1) ∧ Aside0 (w'.heap[gb106]? = some (.cells #[.int .i64 0, (.slice none 0 0)] 33 (0, 0))) ∧ Aside0 (Below w.heap.size w w'))
          case atStart => exact ⟨(0), (0), (by first | rfl | (simp; done) | (simp [*]; done)), (by first | rfl | (simp; done) | (simp [*]; done)), H', ⟨Nat.le_refl _⟩, ⟨by (with_reducible repeat (first | apply Kd.R_alloc | apply Kd.R_drewN | apply Kd.R_drew)); exact HO_3.out⟩, ⟨by (with_reducible repeat (first | refine blk_drewN ?_ _ | refine blk_drew ?_ | refine blk_alloc ?_ _)); exact BK106.out⟩, ⟨by repeat (first | (with_reducible first | exact HB.out | apply below_alloc | apply pw_below_drewN | apply below_drew1 | refine below_set ?_ GE106.out) | exact HB.out)⟩⟩
          case round =>
            clear H'
            try clear p2
            try clear c3
            try clear c4
            try clear p6
            try clear c7
            try clear c7b0
            try clear p2
            obtain ⟨x5_2, x6_2, rfl, rfl, HA, HK2, HO_3, BK106, HB⟩ := hrel
            cases gk with
            | zero => exact absurd HA.out (by simp [spec_Pack.l1])
            | succ k2 =>
              have H := HA.out
              clear HA
              simp only [spec_Pack.l1] at H
              by_cases c8 : x6_2 < 64
              · rw [if_pos c8] at H
                have c8b0 : decide (x6_2 < 64) = true := decide_eq_true c8
                clear c8
                by_cases c9 : (wrap64 ((wrap64 (64 * x4_1)) + x6_2)) < (a0.size : Int)
                · rw [if_pos c9] at H
                  have c9b0 : decide ((wrap64 ((wrap64 (64 * x4_1)) + x6_2)) < (a0.size : Int)) = true := decide_eq_true c9
                  clear c9
                  obtain ⟨ji10, hji10⟩ : ∃ j_ : Int, (wrap64 ((wrap64 (64 * x4_1)) + x6_2)) = j_ := ⟨_, rfl⟩
                  replace H : (if 0 ≤ (ji10) then (if (bt a0 (ji10)) = 49 then (spec_Pack.l1 k2 a0 x3_1 x4_1 (IntKind.u64.wrap ((IntKind.u64.wrap (2 * x5_2)) + 1)) (wrap64 (x6_2 + 1))) else (spec_Pack.l1 k2 a0 x3_1 x4_1 (IntKind.u64.wrap (2 * x5_2)) (wrap64 (x6_2 + 1)))) else (none)) = some (r1, r2) := by first | (rw [hji10] at H; exact H) | (simp only [hji10] at H ⊢; exact H)
                  (try rw [hji10] at c9b0)
                  have hji10w : (IntKind.i64.wrap ((wrap64 (64 * x4_1)) + x6_2)) = ji10 := (i64_w _).trans hji10
                  by_cases c11 : 0 ≤ (ji10)
                  · rw [if_pos c11] at H
                    have c11b0 : decide (0 ≤ (ji10)) = true := decide_eq_true c11
                    clear c11
                    by_cases c13 : (bt a0 (ji10)) = 49
                    · rw [if_pos c13] at H
                      have c13b0 : ((bt a0 (ji10)) == 49) = true := beq_iff_eq.mpr c13
                      have c13b1 : ((bt a0 (ji10)) != 49) = false := bne_eq_false_iff_eq.mpr c13
                      clear c13
                      have H' := Aside0.mk H
                      clear H
                      have p12 : 0 ≤ ((ji10) : Int) := of_decide_eq_true (by first | (with_reducible assumption) | assumption)
                      have q12 : (ji10) < (a0.size : Int) := of_decide_eq_true (by first | (with_reducible assumption) | assumption)
                      have hx12 := bt_at a0 (ji10)
                      replace p12 := eq_true p12
                      replace q12 := eq_true q12
                      go_wp2
                      go_roundg k2
                      case measure => have := HK1.out; have := HK2.out; omega
                      case rel => exact ⟨(IntKind.u64.wrap ((IntKind.u64.wrap (2 * x5_2)) + 1)), (wrap64 (x6_2 + 1)), (by first | rfl | (simp; done) | (simp [*]; done)), (by first | rfl | (simp; done) | (simp [*]; done)), H', ⟨by have := HK1.out; have := HK2.out; omega⟩, ⟨by (with_reducible repeat (first | apply Kd.R_alloc | apply Kd.R_drewN | apply Kd.R_drew)); exact HO_3.out⟩, ⟨by (with_reducible repeat (first | refine blk_drewN ?_ _ | refine blk_drew ?_ | refine blk_alloc ?_ _)); exact BK106.out⟩, ⟨by repeat (first | (with_reducible first | exact HB.out | apply below_alloc | apply pw_below_drewN | apply below_drew1 | refine below_set ?_ GE106.out) | exact HB.out)⟩⟩
                    · rw [if_neg c13] at H
                      have c13b0 : ((bt a0 (ji10)) == 49) = false := beq_eq_false_iff_ne.mpr c13
                      have c13b1 : ((bt a0 (ji10)) != 49) = true := bne_iff_ne.mpr c13
                      have H' := Aside0.mk H
                      clear H
                      have p12 : 0 ≤ ((ji10) : Int) := of_decide_eq_true (by first | (with_reducible assumption) | assumption)
                      have q12 : (ji10) < (a0.size : Int) := of_decide_eq_true (by first | (with_reducible assumption) | assumption)
                      have hx12 := bt_at a0 (ji10)
                      replace p12 := eq_true p12
                      replace q12 := eq_true q12
                      go_wp2
                      go_roundg k2
                      case measure => have := HK1.out; have := HK2.out; omega
                      case rel => exact ⟨(IntKind.u64.wrap (2 * x5_2)), (wrap64 (x6_2 + 1)), (by first | rfl | (simp; done) | (simp [*]; done)), (by first | rfl | (simp; done) | (simp [*]; done)), H', ⟨by have := HK1.out; have := HK2.out; omega⟩, ⟨by (with_reducible repeat (first | apply Kd.R_alloc | apply Kd.R_drewN | apply Kd.R_drew)); exact HO_3.out⟩, ⟨by (with_reducible repeat (first | refine blk_drewN ?_ _ | refine blk_drew ?_ | refine blk_alloc ?_ _)); exact BK106.out⟩, ⟨by repeat (first | (with_reducible first | exact HB.out | apply below_alloc | apply pw_below_drewN | apply below_drew1 | refine below_set ?_ GE106.out) | exact HB.out)⟩⟩
                  · rw [if_neg c11] at H
                    exact absurd H (by simp)
                · rw [if_neg c9] at H
                  have c9b0 : decide ((wrap64 ((wrap64 (64 * x4_1)) + x6_2)) < (a0.size : Int)) = false := decide_eq_false c9
                  clear c9
                  have H' := Aside0.mk H
                  clear H
                  go_wp2
                  go_roundg k2
                  case measure => have := HK1.out; have := HK2.out; omega
                  case rel => exact ⟨(IntKind.u64.wrap (2 * x5_2)), (wrap64 (x6_2 + 1)), (by first | rfl | (simp; done) | (simp [*]; done)), (by first | rfl | (simp; done) | (simp [*]; done)), H', ⟨by have := HK1.out; have := HK2.out; omega⟩, ⟨by (with_reducible repeat (first | apply Kd.R_alloc | apply Kd.R_drewN | apply Kd.R_drew)); exact HO_3.out⟩, ⟨by (with_reducible repeat (first | refine blk_drewN ?_ _ | refine blk_drew ?_ | refine blk_alloc ?_ _)); exact BK106.out⟩, ⟨by repeat (first | (with_reducible first | exact HB.out | apply below_alloc | apply pw_below_drewN | apply below_drew1 | refine below_set ?_ GE106.out) | exact HB.out)⟩⟩
              · rw [if_neg c8] at H
                have c8b0 : decide (x6_2 < 64) = false := decide_eq_false c8
                clear c8
                by_cases c14 : x3_1.length < 17592186044416
                · rw [if_pos c14] at H
                  have LMc14 := Aside0.mk c14
                  clear c14
                  obtain ⟨y111, hy111⟩ : ∃ y_ : List Int, y_ = (x3_1 ++ [x5_2]) := ⟨_, rfl⟩
                  replace H : (spec_Pack.l0 k2 a0 y111 (wrap64 (x4_1 + 1))) = some (r1, r2) := by first | (rw [hy111]; with_reducible exact H) | (have H2_ := (Option.bind_some _ _).symm.trans H; rw [hy111]; with_reducible exact H2_) | (have H2_ := (Option.bind_some _ _).symm.trans H; with_reducible exact H2_) | with_reducible exact H | (rw [hy111]; exact H) | exact H
                  have Ny111 := Aside0.mk hy111
                  clear hy111
                  have H' := Aside0.mk H
                  clear H
                  go_wp2_with (first | ((with_reducible refine gate_builtin (b := .append) (xs := #[.tmp 43, .tmp 45]) rfl ?_); at_builtin; refine Kd.R_append (Kd.int .u64) (w0 := w) w.heap.size rfl (.tmp 43) (.tmp 45) 28 71 (.int .u64 0) 8 rfl Try.underlying28 info71 rfl (by decide) (by omega) u3 x3_1 x5_2 [.int .u64 x5_2] (fun _ => True) (fun _ => False) rfl rfl ?aP (fun _ hk => hk.elim) ?aF ?aO ?aB ?aS ?aL ?_; (case aP => exact rfl); (case aB => exact (by repeat (first | (with_reducible first | exact HB.out | apply below_alloc | apply pw_below_drewN | apply below_drew1 | refine below_set ?_ GE106.out) | exact HB.out))); (case aF => exact (fun _ _ => trivial)); (case aO => exact (by (with_reducible repeat (first | apply Kd.R_alloc | apply Kd.R_drewN | apply Kd.R_drew)); exact HO_3.out)); (case aS => exact (below_size (by repeat (first | (with_reducible first | exact HB.out | apply below_alloc | apply pw_below_drewN | apply below_drew1 | refine below_set ?_ GE106.out) | exact HB.out)))); (case aL => have := LMc14.out; omega); intro v112 w15 ho hb hg hat; rw [← Ny111.out] at ho; have n0_ := Aside0.mk (blk_grown (g := gb106) (o := .cells #[.int .i64 0, .slice none 0 0] 33 (0, 0)) (by (with_reducible repeat (first | refine blk_drewN ?_ _ | refine blk_drew ?_ | refine blk_alloc ?_ _)); exact BK106.out) hg (Kd.R_ne HO_3.out BK106.out (by decide))); have n1_ := Aside0.mk (hb); have n2_ := Aside0.mk (ho); clear BK106; clear HB; clear HO_3; have BK106 := n0_; have HB := n1_; have HO113 := n2_; clear n0_ n1_ n2_; clear ho hb hg hat))
                  go_roundg k2
                  case measure => have := HK1.out; have := HK2.out; omega
                  case rel => exact ⟨(y111), (wrap64 (x4_1 + 1)), (by first | rfl | (simp; done) | (simp [*]; done)), H', ⟨by have := HK1.out; have := HK2.out; omega⟩, ⟨by (with_reducible repeat (first | apply Kd.R_alloc | apply Kd.R_drewN | apply Kd.R_drew)); exact HO113.out⟩, ⟨by (with_reducible repeat (first | refine blk_drewN ?_ _ | refine blk_drew ?_ | refine blk_alloc ?_ _)); exact BK106.out⟩, ⟨by repeat (first | (with_reducible first | exact HB.out | apply below_alloc | apply pw_below_drewN | apply below_drew1 | refine below_set ?_ GE106.out) | exact HB.out)⟩⟩
                · rw [if_neg c14] at H
                  exact absurd H (by simp)
        · rw [if_neg c7] at H
          have c7b0 : decide ((wrap64 (64 * x4_1)) < (a0.size : Int)) = false := decide_eq_false c7
          clear c7
          simp only [Option.some.injEq, Prod.mk.injEq] at H
          obtain ⟨rfl, rfl⟩ := H
          obtain ⟨Ao16, co16, eo16⟩ := Kd.R_slice HO_3.out
          subst eo16
          have hcz17_0 : wr.cell? ⟨gb106, 0, none⟩ = some (.int .i64 0) := (blk_cell BK106.out 0).trans rfl
          have hcz17_1 : wr.cell? ⟨gb106, 1, none⟩ = some (.slice none 0 0) := (blk_cell BK106.out 1).trans rfl
          have hfz17_0 := blk_frozen BK106.out 0
          have hfz17_1 := blk_frozen BK106.out 1
          go_wp2
          refine bodyPost_ret (results_cell_row rfl _ _ gb106 33 #[.int .i64 (a0.size : Int), .slice Ao16 x3_1.length co16] (0, 0) _ rfl (by (with_reducible repeat (first | refine blk_drewN ?_ _ | refine blk_drew ?_ | refine blk_alloc ?_ _)); refine blk_put (cs := #[.int .i64 (a0.size : Int), .slice none 0 0]) ?_ 1 _ rfl; (with_reducible repeat (first | refine blk_drewN ?_ _ | refine blk_drew ?_ | refine blk_alloc ?_ _)); refine blk_put (cs := #[.int .i64 0, .slice none 0 0]) ?_ 0 _ rfl; (with_reducible repeat (first | refine blk_drewN ?_ _ | refine blk_drew ?_ | refine blk_alloc ?_ _)); exact BK106.out) Try.underlying33 rfl (by kernel_rfl)) rfl ?_
          exact ⟨_, by first | rfl | (simp [errW_none, errW_some] <;> rfl) | (simp [*, errW_none, errW_some] <;> rfl), by (with_reducible repeat (first | apply Kd.R_alloc | apply Kd.R_drewN | apply Kd.R_drew)); exact Kd.R_mono (Kd.R_far (p := ⟨gb106, 1, none⟩) (Kd.R_far (p := ⟨gb106, 0, none⟩) (Kd.R_types HO_3.out BK106.out (by decide)) (fun _ hk => hk.2) (.int .i64 (a0.size : Int))) (fun _ hk => hk.2) (.slice Ao16 x3_1.length co16)) (fun _ hk => trivial), by repeat (first | (with_reducible first | exact HB.out | apply below_alloc | apply pw_below_drewN | apply below_drew1 | refine below_set ?_ GE106.out) | exact HB.out)⟩
  · replace c3 := Bool.eq_false_iff.mpr c3
    subst c3
    have H1 : (some (0, ([] : List Int))) = some (r1, r2) := by rw [if_neg (show ¬ (false = true) by decide)] at H; exact H
    clear H
    have H := H1
    clear H1
    simp only [Option.some.injEq, Prod.mk.injEq] at H
    obtain ⟨rfl, rfl⟩ := H
    go_enter Try.func35, Try.ntmps35
    go_wp2_with (first | ((with_reducible refine gate_dst (N := 2) rfl ?_); refine box_event ?hg (N := 2) ?hd (cs := #[.int .i64 0, .slice none 0 0]) (t := 33) ?hr ?_; (case hd => rfl); (case hg => rfl); (case hr => first | (go_simp; done) | (go_simp; rfl)); intro gb106 hg w18 hbox hb; have n0_ := Aside0.mk (below_step (by repeat (first | (with_reducible first | exact HB.out | apply below_alloc | apply pw_below_drewN | apply below_drew1) | exact HB.out)) hb); have n1_ := Aside0.mk (hbox); have n2_ := Aside0.mk ((by rw [hg]; exact (below_size (by repeat (first | (with_reducible first | exact HB.out | apply below_alloc | apply pw_below_drewN | apply below_drew1) | exact HB.out))) : w.heap.size ≤ gb106)); have n3_ := Aside0.mk ((by rw [hg]; exact (below_size (by repeat (first | (with_reducible first | exact HB.out | apply below_alloc | apply pw_below_drewN | apply below_drew1) | exact HB.out))) : w.heap.size ≤ gb106)); clear HB; have HB := n0_; have BK106 := n1_; have GW106 := n2_; have GE106 := n3_; clear n0_ n1_ n2_ n3_; clear hb hbox hg) | ((with_reducible refine gate_callee (f := 46) rfl ?_); refine goesL_ (some 8) rfl rfl Try.func46 (by kernel_rfl) rfl #[.string a0, .int .i64 4000] rfl (by (try simp only [List.map_toArray, List.map_cons, List.map_nil]); first | done | rfl | (simp only [List.length_drop, List.length_take]; rfl)) ?_; (with_reducible refine (spec_l1okBits.calls k a0 4000 false _ A2.out).mono ?_); rintro e w' ⟨rfl, ⟨nd, rfl⟩⟩; refine ⟨_, rfl, ?_⟩; (try (rw [drewN_self w18]; generalize hq_ : World.drewN w18 _ = w18; have n0_ : Aside0 (w18.heap[gb106]? = some (.cells #[.int .i64 0, .slice none 0 0] 33 (0, 0))) := ⟨by rw [← hq_]; exact (by (with_reducible repeat (first | refine blk_drewN ?_ _ | refine blk_drew ?_ | refine blk_alloc ?_ _)); exact BK106.out)⟩; have n1_ : Aside0 (Below w.heap.size w w18) := ⟨by rw [← hq_]; exact (by repeat (first | (with_reducible first | exact HB.out | apply below_alloc | apply pw_below_drewN | apply below_drew1 | refine below_set ?_ GE106.out) | exact HB.out))⟩; clear BK106 HB hq_; have BK106 := n0_; have HB := n1_; clear n0_ n1_)); have hcz19_0 : w18.cell? ⟨gb106, 0, none⟩ = some (.int .i64 0) := (blk_cell BK106.out 0).trans rfl; have hcz19_1 : w18.cell? ⟨gb106, 1, none⟩ = some (.slice none 0 0) := (blk_cell BK106.out 1).trans rfl; have hfz19_0 := blk_frozen BK106.out 0; have hfz19_1 := blk_frozen BK106.out 1))
    refine bodyPost_ret (results_cell_row rfl _ _ gb106 33 #[.int .i64 0, .slice none 0 0] (0, 0) _ rfl (by (with_reducible repeat (first | refine blk_drewN ?_ _ | refine blk_drew ?_ | refine blk_alloc ?_ _)); refine blk_put (cs := #[.int .i64 0, .slice none 0 0]) ?_ 1 _ rfl; (with_reducible repeat (first | refine blk_drewN ?_ _ | refine blk_drew ?_ | refine blk_alloc ?_ _)); refine blk_put (cs := #[.int .i64 0, .slice none 0 0]) ?_ 0 _ rfl; (with_reducible repeat (first | refine blk_drewN ?_ _ | refine blk_drew ?_ | refine blk_alloc ?_ _)); exact BK106.out) Try.underlying33 rfl (by kernel_rfl)) rfl ?_
    exact ⟨_, by first | rfl | (simp [errW_none, errW_some] <;> rfl) | (simp [*, errW_none, errW_some] <;> rfl), by first | exact Kd.R_nil _ _ _ _ _ | exact Kd.N_nil _ _ _ _ _ | exact Kd.V_nil _ _ _ _ _ | exact Kd.Q_nil _ _ _ _ _ | exact Kd.S_nil _ _ _ _ _, by repeat (first | (with_reducible first | exact HB.out | apply below_alloc | apply pw_below_drewN | apply below_drew1 | refine below_set ?_ GE106.out) | exact HB.out)⟩

end Go.Proofs.Ytogedkkdhonmlaa.P

namespace Go.Proofs.Ytogedkkdhonmlaa.P
open Go Go.RowKit Go.Proofs.YtogedkkdhonmlaaW.PrintWords
set_option linter.unusedVariables false
/-! ### Bit texts -/
def isBit (c : UInt8) : Bool := c == 48 || c == 49
def isBits (s : ByteArray) : Bool := s.data.toList.all isBit
def BitsTo (s : ByteArray) (pos : Nat) : Prop := ∀ i (h : i < s.size), i < pos → isBit (s[i]'h) = true
theorem bitsTo_zero (s : ByteArray) : BitsTo s 0 := fun i _ h => absurd h (Nat.not_lt_zero i)
theorem bitsTo_succ {s : ByteArray} {pos : Nat} (h : BitsTo s pos) (hp : pos < s.size) (hb : isBit (s[pos]'hp) = true) : BitsTo s (pos + 1) := by
  intro i hi hlt
  by_cases e : i = pos
  · subst e; exact hb
  · exact h i hi (by omega)
theorem isBits_iff (s : ByteArray) : isBits s = true ↔ BitsTo s s.size := by
  unfold isBits BitsTo
  rw [List.all_eq_true]
  constructor
  · intro h i hi _
    exact h _ (by show s.data[i] ∈ _; simp)
  · intro h x hx
    obtain ⟨i, hi, rfl⟩ := List.getElem_of_mem hx
    have hs : i < s.size := by simpa using hi
    have h2 := h i hs hs
    rw [Array.getElem_toList]
    exact h2
theorem isBits_of (s : ByteArray) {pos : Nat} (hb : BitsTo s pos) (hp : ¬ pos < s.size) : isBits s = true :=
  (isBits_iff s).2 fun i hi _ => hb i hi (by omega)
theorem isBits_not (s : ByteArray) {pos : Nat} (hp : pos < s.size) (hn : isBit (s[pos]'hp) = false) : isBits s = false := by
  cases h : isBits s with
  | false => rfl
  | true => have := (isBits_iff s).1 h pos hp hp; rw [this] at hn; cases hn
theorem isBits_at {s : ByteArray} (h : isBits s = true) {pos : Nat} (hp : pos < s.size) : isBit (s[pos]'hp) = true := (isBits_iff s).1 h pos hp hp
theorem isBit_cases {c : UInt8} (h : isBit c = true) : c = 48 ∨ c = 49 := by
  unfold isBit at h; simpa using h
theorem not_bit {c : UInt8} (h : isBit c = false) : c.toNat ≠ 48 ∧ c.toNat ≠ 49 := by
  unfold isBit at h
  rw [Bool.or_eq_false_iff] at h
  obtain ⟨h1, h2⟩ := h
  rw [beq_eq_false_iff_ne] at h1 h2
  exact ⟨fun e => h1 (UInt8.toNat_inj.1 e), fun e => h2 (UInt8.toNat_inj.1 e)⟩
theorem decode_notBit (s : ByteArray) (pos : Nat) (hp : pos < s.size) (hn : isBit (s[pos]'hp) = false) : ((((Utf8.decode s pos).1 : Nat) : Int) == 48) = false ∧ ((((Utf8.decode s pos).1 : Nat) : Int) == 49) = false := by
  obtain ⟨h1, h2⟩ := not_bit hn
  by_cases ha : (s[pos]'hp).toNat < 128
  · rw [decode_ascii s pos hp ha]
    constructor <;> rw [beq_eq_false_iff_ne] <;> simp only <;> omega
  · have := (decode_high s pos hp (by omega)).1
    constructor <;> rw [beq_eq_false_iff_ne] <;> omega
theorem next_bit {P : Program} (w : World) (s : ByteArray) (pos : Nat) (ty : TypeId) (hp : pos < s.size) {b : Nat} (hb : (s[pos]'hp).toNat = b) (hlt : b < 128) :
    (Instr.next (.pointer (some ⟨w.heap.size, 0, none⟩)) true ty).run P (w.iter s pos) = .ok (.tuple #[.bool true, .int .i64 pos, .int .i32 b]) (w.iter s (pos + 1)) := by
  rw [run_next_ascii w s pos ty hp (by omega), hb]
theorem below_iter (w : World) (s : ByteArray) (pos : Nat) : Below w.heap.size w (w.iter s pos) := (Below.refl _ _).alloc (Nat.le_refl _) _

/-! ### The register of the sum -/
def crcI (r b : Int) : Int := if (Go.bits .xor .i64 (Go.bits .and .i64 (r / 16384) 1) b) = 1 then Go.bits .xor .i64 (Go.bits .and .i64 (wrap64 (r * 2)) 32767) 17817 else Go.bits .and .i64 (wrap64 (r * 2)) 32767
/-- A fold over the first letters of a text. -/
def foldTo {α : Type} (f : α → Int → α) (z : α) (s : ByteArray) (pos : Nat) : α := ((bytesOf s).take pos).foldl f z
theorem foldTo_zero {α : Type} (f : α → Int → α) (z : α) (s : ByteArray) : foldTo f z s 0 = z := by simp [foldTo]
theorem foldTo_succ {α : Type} (f : α → Int → α) (z : α) (s : ByteArray) (pos : Nat) (hp : pos < s.size) {b : Nat} (hb : (s[pos]'hp).toNat = b) : foldTo f z s (pos + 1) = f (foldTo f z s pos) b := by
  have hl : pos < (bytesOf s).length := by rw [bytesOf_length]; exact hp
  have he : (bytesOf s)[pos]'hl = (b : Int) := by
    have h2 : (bytesOf s)[pos]? = some (b : Int) := by
      unfold bytesOf
      rw [List.getElem?_map, Array.getElem?_toList, Array.getElem?_eq_getElem (show pos < s.data.size from hp), ← hb]
      rfl
    rw [List.getElem?_eq_getElem hl] at h2
    exact Option.some.inj h2
  unfold foldTo
  rw [List.take_succ_eq_append_getElem hl, List.foldl_append, he]
  rfl
theorem foldTo_end {α : Type} (f : α → Int → α) (z : α) (s : ByteArray) (pos : Nat) (hp : ¬ pos < s.size) : foldTo f z s pos = (bytesOf s).foldl f z := by
  unfold foldTo
  rw [List.take_of_length_le (by rw [bytesOf_length]; omega)]
def crcOf (s : ByteArray) : Int := (bytesOf s).foldl (fun r c => crcI r (c - 48)) 0
/-! ### Stuffing, letter by letter -/
def stuffStep (st : List Int × Int × Int) (c : Int) : List Int × Int × Int :=
  if (if c = st.2.2 then st.2.1 + 1 else 1) = 5 then (st.1 ++ [c] ++ [97 - c], 1, 97 - c) else (st.1 ++ [c], (if c = st.2.2 then st.2.1 + 1 else 1), c)
def stuffTo (s : ByteArray) (pos : Nat) : List Int × Int × Int := foldTo stuffStep ([], 0, 120) s pos
def stuffL (l : List Int) : List Int := (l.foldl stuffStep ([], 0, 120)).1
theorem stuffTo_zero (s : ByteArray) : stuffTo s 0 = ([], 0, 120) := foldTo_zero _ _ _
theorem stuffTo_succ (s : ByteArray) (pos : Nat) (hp : pos < s.size) {b : Nat} (hb : (s[pos]'hp).toNat = b) : stuffTo s (pos + 1) = stuffStep (stuffTo s pos) b := foldTo_succ _ _ _ _ hp hb
theorem stuffTo_end (s : ByteArray) (pos : Nat) (hp : ¬ pos < s.size) : (stuffTo s pos).1 = stuffL (bytesOf s) := by
  unfold stuffTo stuffL; rw [foldTo_end _ _ _ _ hp]
theorem foldTo_over {α : Type} (f : α → Int → α) (z : α) (s : ByteArray) (pos : Nat) (hp : ¬ pos < s.size) : foldTo f z s (pos + 1) = foldTo f z s pos := by
  rw [foldTo_end _ _ _ _ hp, foldTo_end _ _ _ _ (by omega)]
/-- What holds of a state of a fold over a text's beginning. -/
theorem foldTo_inv {α : Type} (f : α → Int → α) (z : α) (s : ByteArray) (I : Nat → α → Prop) (h0 : I 0 z) (h1 : ∀ n a c, I n a → I (n + 1) (f a c)) (hm : ∀ n a, I n a → I (n + 1) a) (pos : Nat) : I pos (foldTo f z s pos) := by
  induction pos with
  | zero => rw [foldTo_zero]; exact h0
  | succ n ih =>
    by_cases hp : n < s.size
    · rw [foldTo_succ f z s n hp rfl]; exact h1 _ _ _ ih
    · rw [foldTo_over f z s n hp]; exact hm _ _ ih
theorem stuffTo_bounds (s : ByteArray) (pos : Nat) : (stuffTo s pos).1.length ≤ 2 * pos ∧ 0 ≤ (stuffTo s pos).2.1 ∧ (stuffTo s pos).2.1 ≤ pos := by
  refine foldTo_inv stuffStep ([], 0, 120) s (fun n a => a.1.length ≤ 2 * n ∧ 0 ≤ a.2.1 ∧ a.2.1 ≤ n) ⟨by simp, by simp, by simp⟩ (fun n a c h => ?_) (fun n a h => ⟨by omega, h.2.1, by omega⟩) pos
  obtain ⟨h1, h2, h3⟩ := h
  have hr : 0 ≤ (if c = a.2.2 then a.2.1 + 1 else 1) ∧ (if c = a.2.2 then a.2.1 + 1 else 1) ≤ (n : Int) + 1 := by split <;> omega
  unfold stuffStep
  generalize (if c = a.2.2 then a.2.1 + 1 else 1) = run at *
  split
  · exact ⟨by simp; omega, by simp, by simp; omega⟩
  · exact ⟨by simp; omega, hr.1, by have := hr.2; simp only []; omega⟩
/-! ### Taking the stuff bits out -/
def destuffL : List Int → Int → Int → Int → List Int → List Int × Int
  | [], _, _, _, out => (out, -1)
  | c :: l, i, run, last, out => if run = 5 then (if c = last then (out, i) else destuffL l (i + 1) 1 c out) else destuffL l (i + 1) (if c = last then run + 1 else 1) c (out ++ [c])
theorem drop_cons (s : ByteArray) (pos : Nat) (hp : pos < s.size) {b : Nat} (hb : (s[pos]'hp).toNat = b) : (bytesOf s).drop pos = (b : Int) :: (bytesOf s).drop (pos + 1) := by
  have hl : pos < (bytesOf s).length := by rw [bytesOf_length]; exact hp
  rw [List.drop_eq_getElem_cons hl]
  congr 1
  have h2 : (bytesOf s)[pos]? = some (b : Int) := by
    unfold bytesOf
    rw [List.getElem?_map, Array.getElem?_toList, Array.getElem?_eq_getElem (show pos < s.data.size from hp), ← hb]
    rfl
  rw [List.getElem?_eq_getElem hl] at h2
  exact Option.some.inj h2
theorem drop_end (s : ByteArray) (pos : Nat) (hp : ¬ pos < s.size) : (bytesOf s).drop pos = [] := List.drop_eq_nil_of_le (by rw [bytesOf_length]; omega)
/-- Where the walk stands: what is still to come gives R. -/
structure DesAt (s : ByteArray) (R : List Int × Int) (pos : Nat) (out : List Int) (run last : Int) : Prop where
  eq : destuffL ((bytesOf s).drop pos) pos run last out = R
  len : out.length ≤ pos
  lo : 0 ≤ run
  hi : run ≤ 5
theorem DesAt.zero (s : ByteArray) : DesAt s (destuffL (bytesOf s) 0 0 120 []) 0 [] 0 120 := ⟨by rw [List.drop_zero]; rfl, by simp, by omega, by omega⟩
theorem DesAt.step {s : ByteArray} {R : List Int × Int} {pos : Nat} {out : List Int} {run last : Int} (h : DesAt s R pos out run last) (hp : pos < s.size) {b : Nat} (hb : (s[pos]'hp).toNat = b) (hr : run ≠ 5) : DesAt s R (pos + 1) (out ++ [(b : Int)]) (if (b : Int) = last then run + 1 else 1) b := by
  have e := h.eq
  have h1 := h.len; have h2 := h.lo; have h3 := h.hi
  rw [drop_cons s pos hp hb, destuffL, if_neg hr] at e
  refine ⟨e, by rw [List.length_append]; simp; omega, ?_, ?_⟩
  · split <;> omega
  · split <;> omega
theorem DesAt.skip {s : ByteArray} {R : List Int × Int} {pos : Nat} {out : List Int} {last : Int} (h : DesAt s R pos out 5 last) (hp : pos < s.size) {b : Nat} (hb : (s[pos]'hp).toNat = b) (hl : (b : Int) ≠ last) : DesAt s R (pos + 1) out 1 b := by
  have e := h.eq
  have h1 := h.len
  rw [drop_cons s pos hp hb, destuffL, if_pos rfl, if_neg hl] at e
  exact ⟨e, by omega, by omega, by omega⟩
theorem DesAt.stop {s : ByteArray} {R : List Int × Int} {pos : Nat} {out : List Int} {last : Int} (h : DesAt s R pos out 5 last) (hp : pos < s.size) {b : Nat} (hb : (s[pos]'hp).toNat = b) (hl : (b : Int) = last) : R = (out, (pos : Int)) := by
  have e := h.eq
  rw [drop_cons s pos hp hb, destuffL, if_pos rfl, if_pos hl] at e
  exact e.symm
theorem DesAt.over {s : ByteArray} {R : List Int × Int} {pos : Nat} {out : List Int} {run last : Int} (h : DesAt s R pos out run last) (hp : ¬ pos < s.size) : R = (out, -1) := by
  have e := h.eq
  rw [drop_end s pos hp, destuffL] at e
  exact e.symm
/-- What Destuff says of a text. -/
def destuffV (s : ByteArray) : ByteArray × Int := if s.size ≤ 4000 ∧ isBits s = true then (strOfNums (destuffL (bytesOf s) 0 0 120 []).1, (destuffL (bytesOf s) 0 0 120 []).2) else (⟨#[]⟩, -2)
end Go.Proofs.Ytogedkkdhonmlaa.P

namespace Go.Proofs.Ytogedkkdhonmlaa.P
open Go.RowKit Go.Proofs.YtogedkkdhonmlaaW.PrintWords Go.Proofs.YtogedkkdhonmlaaW.PrintLast Go.Proofs.YtogedkkdhonmlaaW.PrintMore
attribute [local go_sem] max2_int min2_int max_two min_two max_three min_three max_four min_four
set_option linter.unusedVariables false
set_option linter.unusedSimpArgs false

-- GIVEN rounds=0 making=1 import=Derived.Test.YtogedkkdhonmlaaOwn
/-! ### impl_bitText: function 47 -/
def impl_bitText.f (a0 : ByteArray) (a1 : Int) : Option (Bool) := some (decide ((a0.size : Int) ≤ a1) && isBits a0)
theorem impl_bitText.calls (a0 : ByteArray) (a1 : Int) (r : Bool) (w : World) (h : impl_bitText.f a0 a1 = some r) :
    Calls Try.prog 47 #[.string a0, .int .i64 a1] w fun e w' => e = .returned (.bool r) ∧ Below w.heap.size w w' := by
  by_cases c1 : (a0.size : Int) ≤ a1
  · have c1b : decide (a1 < (a0.size : Int)) = false := decide_eq_false (by omega)
    have hr : Hid (r = isBits a0) := by
      have h1 := Option.some.inj h
      rw [decide_eq_true c1, Bool.true_and] at h1
      exact Lib.hid h1.symm
    clear h c1
    go_enter Try.func47, Try.ntmps47
    go_wp2
    go_loopw [] (fun w' => ∃ pos : Nat, w' = w.iter a0 pos ∧ BitsTo a0 pos) (fun w' => a0.size - w'.iterPos w.heap.size)
    case atStart => exact ⟨0, rfl, bitsTo_zero a0⟩
    case round =>
      obtain ⟨pos, rfl, hb⟩ := hrel
      have HB := Lib.hid hb
      clear hb
      by_cases hp : pos < a0.size
      · cases hbit : isBit (a0[pos]'hp) with
        | true =>
          have HT : Hid (isBit (a0[pos]'hp) = true) := Lib.hid hbit
          rcases isBit_cases hbit with e | e
          · have hnx := fun ty => next_bit (P := Try.prog) w a0 pos ty hp (b := 48) (by rw [e]; rfl) (by omega)
            clear e hbit
            go_wp2
            go_roundw
            case rel => exact ⟨pos + 1, rfl, bitsTo_succ HB.out hp HT.out⟩
            case measure => simp; omega
          · have hnx := fun ty => next_bit (P := Try.prog) w a0 pos ty hp (b := 49) (by rw [e]; rfl) (by omega)
            clear e hbit
            go_wp2
            go_roundw
            case rel => exact ⟨pos + 1, rfl, bitsTo_succ HB.out hp HT.out⟩
            case measure => simp; omega
        | false =>
          have HF := Lib.hid (isBits_not a0 hp hbit)
          obtain ⟨h48, h49⟩ := decode_notBit a0 pos hp hbit
          have h48' : ((((Utf8.decode a0 pos).1 : Nat) : Int) != 48) = true := by rw [bne, h48]; rfl
          have h49' : ((((Utf8.decode a0 pos).1 : Nat) : Int) != 49) = true := by rw [bne, h49]; rfl
          have hnx := fun ty => run_next_any (P := Try.prog) w a0 pos ty hp
          clear hbit
          go_wp2
          go_ret
          exact ⟨by rw [hr.out, HF.out]; rfl, below_iter _ _ _⟩
      · have hnx := fun ty => run_next_end (P := Try.prog) w a0 pos ty hp
        have HF := Lib.hid (isBits_of a0 HB.out hp)
        go_wp2
        go_ret
        exact ⟨by rw [hr.out, HF.out]; rfl, below_iter _ _ _⟩
  · have c1b : decide (a1 < (a0.size : Int)) = true := decide_eq_true (by omega)
    have hr : r = false := by
      have h1 := Option.some.inj h
      rw [decide_eq_false c1, Bool.false_and] at h1
      exact h1.symm
    subst hr
    clear h c1
    go_enter Try.func47, Try.ntmps47
    go_wp2
    go_ret
    exact ⟨rfl, Below.refl _ _⟩

end Go.Proofs.Ytogedkkdhonmlaa.P

namespace Go.Proofs.Ytogedkkdhonmlaa.P
open Go Go.RowKit Go.Proofs.YtogedkkdhonmlaaW.PrintWords
set_option linter.unusedVariables false
/-! ### Facts on the program's types; an iterator beside rows of the call's own -/
theorem infoU8 : (Try.prog.info? 5).map (fun i => (i.zero, i.size, i.bytes)) = some (some (.int .u8 0), 1, 1) := by kernel_rfl
theorem R_iterAt {α : Type} {d : Kd α} {e : Nat} {w : World} {base : Nat} {ok : Nat → Prop} {v : Value} {xs : List α} (h : d.R e w base ok v xs) {k : Nat} {s : ByteArray} {pos : Nat} (hk : w.heap[k]? = some (.stringIter s pos)) (pos' : Nat) :
    d.R e (w.iterAt k s pos') base ok v xs :=
  Kd.R_mono (Kd.R_move (Kd.R_bound h) (fun j hj => by
    obtain ⟨_, _, _, q, _, cells, hc⟩ := hj
    refine Lib.iterAt_other w k j s pos' ?_
    rintro rfl
    rw [hk] at hc
    cases hc)) (fun _ hj => hj.1)
theorem iter_grown {α : Type} {d : Kd α} {e : Nat} {W w1 : World} {base : Nat} {ok : Nat → Prop} {v : Value} {xs : List α} (h : d.R e W base ok v xs) (hg : W.grownBy w1 v.ownBlock) {k : Nat} {s : ByteArray} {pos : Nat} (hk : W.heap[k]? = some (.stringIter s pos)) : w1.heap[k]? = some (.stringIter s pos) := by
  rw [hg.block k (Array.getElem?_eq_some_iff.1 hk).1 ?_, hk]
  intro e1
  obtain ⟨inner, ho⟩ := Kd.R_own h
  obtain ⟨cells, hc⟩ := own_typed ho k e1.symm
  rw [hk] at hc
  cases hc
theorem iter_new (w : World) (s : ByteArray) (pos : Nat) : (w.iter s pos).heap[w.heap.size]? = some (.stringIter s pos) := World.iter_heap w s pos
theorem next_bit_at {P : Program} (w : World) (k : Nat) (s : ByteArray) (pos : Nat) (ty : TypeId) (hk : w.heap[k]? = some (.stringIter s pos)) (hp : pos < s.size) {b : Nat} (hb : (s[pos]'hp).toNat = b) (hlt : b < 128) :
    (Instr.next (.pointer (some ⟨k, 0, none⟩)) true ty).run P w = .ok (.tuple #[.bool true, .int .i64 pos, .int .i32 b]) (w.iterAt k s (pos + 1)) := by
  rw [Lib.run_next_ascii_at w k s pos ty hk hp (by omega), hb]
theorem R_iter {α : Type} {d : Kd α} {e : Nat} {w : World} {base : Nat} {ok : Nat → Prop} {v : Value} {xs : List α} (h : d.R e w base ok v xs) (s : ByteArray) (pos : Nat) : d.R e (w.iter s pos) base ok v xs := Kd.R_below h (below_iter w s pos)
/-- What '[]byte(s)' leaves. -/
theorem below_bytes {B : Nat} {a w : World} (h : Below B a w) (hB : B ≤ w.heap.size) (e : TypeId) (s : ByteArray) : Below B a (Lib.bytesWorld w e s) :=
  h.trans ⟨rfl, rfl, rfl, by rw [Lib.bytesWorld_size]; omega, fun j hj => Lib.bytesWorld_at_old w e s j (by omega)⟩
theorem bytes_C (w : World) (e : TypeId) (s : ByteArray) (hs : s.size ≤ 9223372036854775807) : Kd.C (Kd.int .u8) (Lib.bytesWorld w e s) (some ⟨w.heap.size, 0, none⟩) s.size (bytesOf s) := by
  refine ⟨bytesOf_length s, hs, fun _ => ⟨_, rfl, fun j p hj => ⟨[.int .u8 p], rfl, rfl, fun i u hu => ?_⟩⟩⟩
  have hlt : j < s.size := by have := (List.getElem?_eq_some_iff.1 hj).1; rw [bytesOf_length] at this; exact this
  have hp : p = ((s.data.toList.getD j 0).toNat : Int) := by
    unfold bytesOf at hj
    rw [List.getElem?_map, Array.getElem?_toList, Array.getElem?_eq_getElem (show j < s.data.size from hlt)] at hj
    rw [List.getD_eq_getElem?_getD, Array.getElem?_toList, Array.getElem?_eq_getElem (show j < s.data.size from hlt)]
    exact (Option.some.inj hj).symm
  match i, hu with
  | 0, hu =>
    obtain rfl := Option.some.inj hu
    show (Lib.bytesWorld w e s).cell? ((⟨w.heap.size, 0, none⟩ : Addr).add (j * 1 + 0)) = _
    rw [add_plain, Nat.mul_one, Nat.add_zero, Lib.bytesWorld_cell w e s j hlt, hp]
theorem C_cell {k : IntKind} {w : World} {g n : Nat} {xs : List Int} (h : (Kd.int k).C w (some ⟨g, 0, none⟩) n xs) (i : Nat) (hi : i < n) : w.cell? ⟨g, i, none⟩ = some (.int k (rd xs (i : Int))) := by
  obtain ⟨ad, e, hc⟩ := Kd.at_int h (i : Int) (by omega) (by omega)
  obtain rfl := Option.some.inj e
  rw [add_plain] at hc
  exact hc
theorem C_block {k : IntKind} {w w' : World} {g n : Nat} {xs : List Int} (h : (Kd.int k).C w (some ⟨g, 0, none⟩) n xs) (hb : w'.heap[g]? = w.heap[g]?) : (Kd.int k).C w' (some ⟨g, 0, none⟩) n xs := by
  refine ⟨h.1, h.2.1, fun hn => ?_⟩
  obtain ⟨ad, e, hc⟩ := h.2.2 hn
  obtain rfl := Option.some.inj e
  refine ⟨_, rfl, fun j p hj => ?_⟩
  obtain ⟨c, h1, h2, h3⟩ := hc j p hj
  refine ⟨c, h1, h2, fun i u hu => ?_⟩
  have := h3 i u hu
  rw [add_plain] at this ⊢
  rw [← this]
  simp only [World.cell?, hb]
theorem C_kept {k : IntKind} {W w1 : World} {g n : Nat} {xs : List Int} {v : Value} (h : (Kd.int k).C W (some ⟨g, 0, none⟩) n xs) (hg : W.grownBy w1 v.ownBlock) (hlt : g < W.heap.size) (hne : ∀ j, v.ownBlock = some j → j ≠ g) : (Kd.int k).C w1 (some ⟨g, 0, none⟩) n xs :=
  C_block h (hg.block g hlt (fun e => hne g e.symm rfl))
theorem R_empty {α : Type} (d : Kd α) (w : World) (e base : Nat) (hb : base ≤ w.heap.size) (ok : Nat → Prop) (hok : ok w.heap.size) : d.R e (w.alloc (.cells #[] e)) base ok (.slice (some ⟨w.heap.size, 0, none⟩) 0 0) [] := by
  refine ⟨fun k hk => by (obtain rfl : w.heap.size = k := Option.some.inj hk); exact hok, [], ⟨by simp, .inr ⟨w.heap.size, 0, #[], rfl, hb, ?_, Nat.le_refl _, by simp [maxLen], by simp, by simp⟩⟩, Reps.none _ _⟩
  exact heap_alloc_new w _
theorem iterPos_at {w : World} {k : Nat} {s : ByteArray} {pos : Nat} (hk : w.heap[k]? = some (.stringIter s pos)) : w.iterPos k = pos := by
  unfold World.iterPos; rw [hk]
theorem make_R {P : Program} {α : Type} (d : Kd α) (w : World) (base : Nat) (t e : TypeId) (z : Value) (bytes : Nat) (ht : P.underlying t = some (.slice e)) (hinfo : (P.info? e).map (fun i => (i.zero, i.size, i.bytes)) = some (some z, d.sz, bytes)) (c : Nat) (hb : bytes * c ≤ 281474976710656) (h63 : c ≤ maxLen) (hbase : base ≤ w.heap.size) :
    ∃ w' cap, (Instr.makeSlice t (.int .i64 0) (.int .i64 (c : Int))).run P w = .ok (.slice (some ⟨w.heap.size, 0, none⟩) 0 cap) w' ∧
      d.R e w' base (fun _ => True) (.slice (some ⟨w.heap.size, 0, none⟩) 0 cap) [] ∧ w.grownBy w' none := by
  obtain ⟨i, hi, hh⟩ := Option.map_eq_some_iff.1 hinfo
  simp only [Prod.mk.injEq] at hh
  obtain ⟨hz, hs, hby⟩ := hh
  obtain ⟨w', h1, h2, h3⟩ := run_make_own (P := P) w base t e i z d.sz ht hi hz hs .i64 .i64 c (by rw [hby]; exact hb) h63 hbase
  exact ⟨w', c, h1, ⟨fun _ _ => trivial, [], h2, Reps.none _ _⟩, h3⟩
end Go.Proofs.Ytogedkkdhonmlaa.P

namespace Go.Proofs.Ytogedkkdhonmlaa.P
open Go Go.RowKit Go.Proofs.YtogedkkdhonmlaaW.PrintWords
set_option linter.unusedVariables false
/-! ### Whole numbers and lists -/
/-- A bit as a number. -/
def b2 (b : Bool) : Int := if b then 1 else 0
theorem b2_range (b : Bool) : 0 ≤ b2 b ∧ b2 b ≤ 1 := by cases b <;> decide
theorem w64 {x : Int} (h0 : 0 ≤ x) (h1 : x < 1000000000) : wrap64 x = x := by unfold wrap64; omega
theorem rd_set (v : List Int) (i : Nat) (x : Int) (t : Nat) (hi : i < v.length) : rd (v.set i x) (t : Int) = if t = i then x else rd v (t : Int) := by
  unfold rd
  rw [Int.toNat_natCast, List.getD_eq_getElem?_getD, List.getD_eq_getElem?_getD, List.getElem?_set]
  by_cases e : i = t
  · subst e; simp [hi]
  · rw [if_neg e, if_neg (fun h => e h.symm)]
theorem rd_snoc (v : List Int) (x : Int) (t : Nat) : rd (v ++ [x]) (t : Int) = if t < v.length then rd v t else if t = v.length then x else 0 := by
  unfold rd
  rw [Int.toNat_natCast, List.getD_eq_getElem?_getD, List.getD_eq_getElem?_getD, List.getElem?_append]
  by_cases h : t < v.length
  · rw [if_pos h, if_pos h]
  · rw [if_neg h, if_neg h]
    by_cases e : t = v.length
    · rw [if_pos e, e, Nat.sub_self]; rfl
    · rw [if_neg e, List.getElem?_eq_none (by simp; omega)]; rfl
theorem rd_get (v : List Int) (t : Nat) (h : t < v.length) : v[t]? = some (rd v (t : Int)) := by
  unfold rd
  rw [Int.toNat_natCast, List.getD_eq_getElem?_getD, List.getElem?_eq_getElem h]; rfl
/-- Two lists of one length that agree in the first i places. -/
def SameTo (x l : List Int) (i : Nat) : Prop := x.length = l.length ∧ ∀ t, t < i → x[t]? = l[t]?
theorem SameTo.zero {x l : List Int} (h : x.length = l.length) : SameTo x l 0 := ⟨h, fun t ht => absurd ht (Nat.not_lt_zero t)⟩
theorem SameTo.all {x l : List Int} {i : Nat} (h : SameTo x l i) (hi : l.length ≤ i) : x = l := by
  apply List.ext_getElem?
  intro t
  by_cases c : t < l.length
  · exact h.2 t (by omega)
  · rw [List.getElem?_eq_none (by have := h.1; omega), List.getElem?_eq_none (by omega)]
theorem SameTo.next {x l : List Int} {i : Nat} (h : SameTo x l i) (hi : i < l.length) : SameTo (x.set i (rd l (i : Int))) l (i + 1) := by
  refine ⟨by rw [List.length_set]; exact h.1, fun t ht => ?_⟩
  rw [List.getElem?_set]
  by_cases e : i = t
  · subst e
    rw [if_pos rfl, if_pos (by have := h.1; omega), rd_get l i hi]
  · rw [if_neg e]
    exact h.2 t (by omega)
theorem ev_neg {α : Type} {c : Prop} [Decidable c] {f g : Nat → Option α} {r : α} (h : ¬ c) (k : Ev g r) : Ev (fun n => if c then f n else g n) r :=
  Ev.congr (fun _ => if_neg h) k
theorem ev_pos {α : Type} {c : Prop} [Decidable c] {f g : Nat → Option α} {r : α} (h : c) (k : Ev f r) : Ev (fun n => if c then f n else g n) r :=
  Ev.congr (fun _ => if_pos h) k
theorem ev_some {α β : Type} {a : Option β} {b : β} {f : Nat → β → Option α} {r : α} (h : a = some b) (k : Ev (fun n => f n b) r) : Ev (fun n => a.bind (f n)) r :=
  Ev.congr (fun _ => by rw [h]; rfl) k
end Go.Proofs.Ytogedkkdhonmlaa.P

namespace Go.Proofs.Ytogedkkdhonmlaa.P
open Go Go.RowKit Go.Proofs.YtogedkkdhonmlaaW.PrintWords
set_option linter.unusedVariables false
/-! ### A row of bytes of the call's own, with or without a conversion's mark -/
def RowM (e : TypeId) (w : World) (base : Nat) (v : Value) (xs : List Int) : Prop :=
  w.ownsRow base e 1 v xs.length (nums .u8 xs) ∨
  ∃ g cap cur fz, v = .slice (some ⟨g, 0, none⟩) xs.length cap ∧ base ≤ g ∧ w.heap[g]? = some (.cells cur e fz) ∧ cap ≤ fz.1 ∧ xs.length ≤ cap ∧ cap ≤ maxLen ∧ cur.size = cap ∧ cur.toList.take xs.length = nums .u8 xs
theorem RowM.typed {e : TypeId} {w : World} {base : Nat} {v : Value} {xs : List Int} (h : RowM e w base v xs) {k : Nat} (hk : v.ownBlock = some k) : base ≤ k ∧ k < w.heap.size ∧ ∃ cur fz, w.heap[k]? = some (.cells cur e fz) := by
  rcases h with h | ⟨g, cap, cur, fz, rfl, hb, hh, _⟩
  · obtain ⟨cells, hc⟩ := own_typed h k hk
    exact ⟨own_base h k hk, own_lt h k hk, cells, _, hc⟩
  · obtain rfl : g = k := Option.some.inj hk
    exact ⟨hb, (Array.getElem?_eq_some_iff.1 hh).1, cur, fz, hh⟩
theorem RowM.slice {e : TypeId} {w : World} {base : Nat} {v : Value} {xs : List Int} (h : RowM e w base v xs) : ∃ A n c, v = .slice A n c := by
  rcases h with h | ⟨g, cap, cur, fz, rfl, _⟩
  · obtain ⟨A, c, e⟩ := own_slice h
    exact ⟨A, _, c, e⟩
  · exact ⟨_, _, _, rfl⟩
theorem RowM.move {e : TypeId} {w w1 : World} {base : Nat} {v : Value} {xs : List Int} (h : RowM e w base v xs) (hm : ∀ k, v.ownBlock = some k → w1.heap[k]? = w.heap[k]?) : RowM e w1 base v xs := by
  rcases h with h | ⟨g, cap, cur, fz, rfl, hb, hh, r⟩
  · exact .inl (own_move h hm)
  · exact .inr ⟨g, cap, cur, fz, rfl, hb, (hm g rfl).trans hh, r⟩
/-- What a call may turn: one block, one row; where the row may go. -/
structure Fr (w w' : World) (p : Nat) (row row' : Option Nat) : Prop where
  os : w'.os = w.os
  tape : w'.tape = w.tape
  output : w'.output = w.output
  size : w.heap.size ≤ w'.heap.size
  block : ∀ k, k < w.heap.size → k ≠ p → some k ≠ row → w'.heap[k]? = w.heap[k]?
  goes : row' = row ∨ ∃ b, row' = some b ∧ w.heap.size ≤ b
theorem Fr.refl (w : World) (p : Nat) (row : Option Nat) : Fr w w p row row := ⟨rfl, rfl, rfl, Nat.le_refl _, fun _ _ _ _ => rfl, .inl rfl⟩
theorem Fr.trans {w w1 w2 : World} {p : Nat} {r r1 r2 : Option Nat} (h : Fr w w1 p r r1) (k : Fr w1 w2 p r1 r2) : Fr w w2 p r r2 := by
  refine ⟨k.os.trans h.os, k.tape.trans h.tape, k.output.trans h.output, Nat.le_trans h.size k.size, fun j hj hp hr => ?_, ?_⟩
  · refine (k.block j (Nat.lt_of_lt_of_le hj h.size) hp ?_).trans (h.block j hj hp hr)
    rcases h.goes with e | ⟨b, e, hb⟩
    · rw [e]; exact hr
    · rw [e]; intro e2; have := Option.some.inj e2; omega
  · rcases k.goes with e | ⟨b, e, hb⟩
    · rw [e]; exact h.goes
    · exact .inr ⟨b, e, Nat.le_trans h.size hb⟩
theorem Fr.below {B : Nat} {w0 w w' : World} {p : Nat} {r r' : Option Nat} (h : Fr w w' p r r') (hb : Below B w0 w) (hB : B ≤ w.heap.size) (hp : B ≤ p) (hr : ∀ k, r = some k → B ≤ k) : Below B w0 w' :=
  hb.trans ⟨h.os, h.tape, h.output, h.size, fun k hk => h.block k (by omega) (by omega) (fun e => by have := hr k e.symm; omega)⟩
theorem nums_one (x : Int) : nums .u8 [x] = [.int .u8 x] := rfl
theorem RowM.append {P : Program} {ops : Array Oper} {rest : List Oper} {o : Oper} {a : Act} {Q : Exit → Act → World → Prop} {W : World} (base : Nat) (hgd : o.guard = none) (s x : Operand) (t e : TypeId)
    (ho : o.op = .call { callee := .builtin .append, args := #[s, x], argTypes := #[t, t] })
    (ht : P.underlying t = some (.slice e)) (hinfo : (P.info? e).map (fun i => (i.zero, i.size, i.bytes)) = some (some (.int .u8 0), 1, 1))
    (v : Value) (xs : List Int) (b : Int) (hs : a.eval s = v) (hx : a.eval x = .slice (some ⟨W.heap.size, 0, none⟩) 1 1)
    (HO : RowM e W base v xs) (hbase : base ≤ W.heap.size) (hl : xs.length + 1 ≤ 1000000)
    (h : ∀ v1 w1, RowM e w1 base v1 (xs ++ [b]) → Fr W w1 W.heap.size v.ownBlock v1.ownBlock → wpList P ops Q rest (a.put o.dst v1) w1) :
    wpList P ops Q (o :: rest) a (W.alloc (.cells #[.int .u8 b] e)) := by
  have hn : (xs ++ [b]).length = xs.length + 1 := by simp
  rcases HO with HO | ⟨g, cap, cur, fz, rfl, hb, hh, hfz, hlc, hcm, hcs, htk⟩
  · refine print_append_cells (w0 := W) (ys := [.int .u8 b]) base hgd s x t e (.int .u8 0) 1 1 ho ht hinfo rfl (by decide) (by decide) v xs.length (nums .u8 xs) hs hx rfl (by simp [Value.oneCell']) HO (Below.refl _ _) hbase (by omega) ?_
    intro v1 w1 hown _ hg hat
    refine h v1 w1 (.inl (by rw [hn, nums_append]; exact hown)) ⟨hg.os, hg.tape, hg.output, hg.size, fun k hk _ hr => hg.block k hk hr, ?_⟩
    rcases hat with e1 | ⟨c, e1, hc⟩
    · exact .inl e1
    · exact .inr ⟨c, e1, hc⟩
  · obtain ⟨i0, hi, hzz⟩ := Option.map_eq_some_iff.1 hinfo
    simp only [Prod.mk.injEq] at hzz
    obtain ⟨hz0, hz1, hz2⟩ := hzz
    have hgl : g < W.heap.size := (Array.getElem?_eq_some_iff.1 hh).1
    have hhA : (W.alloc (.cells #[.int .u8 b] e)).heap[g]? = some (.cells cur e fz) := (heap_alloc_old W _ hgl).trans hh
    have hcell : ∀ j, (W.alloc (.cells #[.int .u8 b] e)).cell? ⟨g, j, none⟩ = cur[j]? := fun j => by simp only [World.cell?, hhA]; simp
    have hol : (nums .u8 xs).length = xs.length * 1 := by rw [nums_length, Nat.mul_one]
    refine wpList_append_arg (W.alloc (.cells #[.int .u8 b] e)) hgd s x t ho e i0 (.int .u8 0) 1 1 ht hi hz0 hz1 hz2 rfl (by decide) g 0 xs.length cap (nums .u8 xs) hs hol (fun j u hj => ?_) ⟨W.heap.size, 0, none⟩ 1 1 [.int .u8 b] hx rfl
      (by simpa using World.news_of_block (cs := #[.int .u8 b]) (t := e) (fr := (0, 0)) (heap_alloc_new W (.cells #[.int .u8 b] e))) (by simp [Value.oneCell']) (fun hroom j hj => ⟨?_, ?_⟩) (by simp only [maxLen]; omega) (by omega) (fun hroom => ?_) (fun _ v1 w1 hown hg => ?_)
    · rw [Nat.zero_add, hcell]
      have hjl : j < xs.length := by have := (List.getElem?_eq_some_iff.1 hj).1; rw [nums_length] at this; exact this
      rw [← htk, List.getElem?_take_of_lt hjl, Array.getElem?_toList] at hj
      exact hj
    · have hj1 : j < 1 := hj
      rw [hcell, Array.getElem?_eq_getElem (by omega)]; rfl
    · have hj1 : j < 1 := hj
      obtain ⟨lo, hi'⟩ := fz
      simp only [World.frozen?, hhA]
      have hlo : cap ≤ lo := hfz
      rw [decide_eq_false (show ¬ lo ≤ 0 + xs.length * 1 + j by omega), Bool.false_and]
    · have e0 : 0 + xs.length * 1 = xs.length := by omega
      rw [e0]
      have hset : ((W.alloc (.cells #[.int .u8 b] e)).setCell ⟨g, xs.length, none⟩ (.int .u8 b)).heap[g]? = some (.cells (cur.setIfInBounds xs.length (.int .u8 b)) e fz) := by
        simp only [World.setCell, Array.getElem?_modify, hhA]
        simp
      have hs1 : ((W.alloc (.cells #[.int .u8 b] e)).setCell ⟨g, xs.length, none⟩ (.int .u8 b)).heap.size = W.heap.size + 1 := by simp
      refine h _ _ (.inr ⟨g, cap, _, fz, by rw [hn], hb, hset, hfz, by rw [hn]; exact hroom, hcm, by simp [hcs], ?_⟩) ⟨rfl, rfl, rfl, ?_, fun k hk _ hr => ?_, .inl rfl⟩
      · rw [hn, nums_append, nums_one, Array.toList_setIfInBounds, List.take_add_one, List.take_set_of_le (Nat.le_refl _), htk, List.getElem?_set_self (by simpa using (show xs.length < cur.size by omega))]
        rfl
      · show W.heap.size ≤ ((W.alloc (.cells #[.int .u8 b] e)).setCell ⟨g, xs.length, none⟩ (.int .u8 b)).heap.size
        rw [hs1]; omega
      · show ((W.alloc (.cells #[.int .u8 b] e)).setCell ⟨g, xs.length, none⟩ (.int .u8 b)).heap[k]? = W.heap[k]?
        rw [Below.heap_setCell _ _ _ k (fun e1 => hr (by rw [e1]; rfl)), heap_alloc_old W _ hk]
    · have e1 : nums .u8 xs ++ [Value.int .u8 b] = nums .u8 (xs ++ [b]) := by rw [nums_append, nums_one]
      rw [e1] at hown
      have hw : w1.ownsRow base e 1 v1 (xs ++ [b]).length (nums .u8 (xs ++ [b])) := by rw [hn]; exact own_weaken hown (by simp; omega)
      refine h v1 w1 (.inl hw) ⟨hg.os, hg.tape, hg.output, Nat.le_trans (by simp) hg.size, fun k hk hk2 hr => ?_, ?_⟩
      · rw [hg.block k (by simp; omega) (by simp), heap_alloc_old W _ hk]
      · rcases hown.2 with ⟨_, h0⟩ | ⟨g', c', cu', rfl, hb', _⟩
        · omega
        · exact .inr ⟨g', rfl, by simp at hb'; omega⟩
/-- The bytes of a row as a text. -/
theorem RowM.string {P : Program} {w : World} {base : Nat} {src dst e' e : TypeId} {v : Value} {xs : List Int} (hs : P.underlying src = some (.slice e)) (he : P.underlying e = some (.int .u8)) (hd : P.underlying dst = some .string) (h : RowM e' w base v xs) : (convert src dst v).run P w = .ok (.string (strOfNums xs)) w := by
  rcases h with h | ⟨g, cap, cur, fz, rfl, hb, hh, hfz, hlc, hcm, hcs, htk⟩
  · exact own_string hs he hd h
  · refine run_convert_bytes_arg w src e hs he g 0 xs.length cap xs rfl (fun i hi => ?_) dst hd
    have h1 : (nums .u8 xs)[i]? = some (.int .u8 (xs.getD i 0)) := by simp [nums, List.getElem?_eq_getElem hi, List.getD_eq_getElem?_getD]
    rw [← htk, List.getElem?_take_of_lt hi, Array.getElem?_toList] at h1
    simp only [World.cell?, hh]
    simpa using h1
/-! ### Numbers as letters -/
def numL (u : Nat) : Nat → List Int
  | 0 => []
  | n + 1 => (48 + ((u / 2 ^ n % 2 : Nat) : Int)) :: numL u n
theorem numL_length (u : Nat) : ∀ n, (numL u n).length = n
  | 0 => rfl
  | n + 1 => by rw [numL, List.length_cons, numL_length u n]
theorem Fr.store {w w1 : World} {p : Nat} {r : Option Nat} {v1 : Value} (h : Fr w w1 w.heap.size r v1.ownBlock) (hp : p < w.heap.size) : Fr w (w1.setCell ⟨p, 0, none⟩ v1) p r v1.ownBlock :=
  ⟨h.os, h.tape, h.output, by simpa using h.size, fun k hk hkp hr => by
    rw [Below.heap_setCell _ _ _ k hkp]; exact h.block k hk (by omega) hr, h.goes⟩
theorem cell_block {w : World} {p : Nat} {v : Value} {t : TypeId} (h : w.heap[p]? = some (.cells #[v] t (0, 0))) : w.cell? ⟨p, 0, none⟩ = some v := by simp only [World.cell?, h]; simp
theorem frozen_block {w : World} {p : Nat} {v : Value} {t : TypeId} (h : w.heap[p]? = some (.cells #[v] t (0, 0))) (j : Nat) : w.frozen? ⟨p, j, none⟩ = false := by simp only [World.frozen?, h]; simp
theorem set_block {w : World} {p : Nat} {v u : Value} {t : TypeId} (h : w.heap[p]? = some (.cells #[v] t (0, 0))) : (w.setCell ⟨p, 0, none⟩ u).heap[p]? = some (.cells #[u] t (0, 0)) := by
  simp only [World.setCell, Array.getElem?_modify, h]
  simp
theorem RowM.bytes (w : World) (e : TypeId) (s : ByteArray) (base : Nat) (hb : base ≤ w.heap.size) (hs : s.size ≤ maxLen) : RowM e (Lib.bytesWorld w e s) base (.slice (some ⟨w.heap.size, 0, none⟩) s.size (grownCap w s.size 0 e)) (bytesOf s) := by
  have hg := grownCap_ge w s.size 0 e
  have hz : (Lib.bytesCells w e s).size = grownCap w s.size 0 e := by simp [Lib.bytesCells]; have : s.data.size = s.size := rfl; omega
  refine .inr ⟨w.heap.size, _, _, _, by rw [bytesOf_length], hb, Lib.bytesWorld_at_new w e s, by rw [hz]; exact Nat.le_refl _, by rw [bytesOf_length]; exact hg, grownCap_le_maxLen w s.size 0 e hs, hz, ?_⟩
  rw [bytesOf_length]
  unfold Lib.bytesCells nums bytesOf
  rw [Array.toList_append, List.take_append_of_le_length (by simp), List.take_of_length_le (by simp)]
  simp
/-- A box, a pointer's cell and its row, in a world that grew from w. -/
structure BW (e t : TypeId) (w wr : World) (b p : Nat) (box : Array Value) (tb : TypeId) (v : Value) (xs : List Int) : Prop where
  box : wr.heap[b]? = some (.cells box tb (0, 0))
  ptr : wr.heap[p]? = some (.cells #[v] t (0, 0))
  row : RowM e wr w.heap.size v xs
  below : Below w.heap.size w wr
  lo : w.heap.size ≤ b
  lp : w.heap.size ≤ p
  ne : b ≠ p
theorem BW.step {e t : TypeId} {w wr w' : World} {b p : Nat} {box : Array Value} {tb : TypeId} {v v' : Value} {xs ys : List Int} (h : BW e t w wr b p box tb v xs) (he : e ≠ tb) (hp : w'.heap[p]? = some (.cells #[v'] t (0, 0))) (hv : RowM e w' w.heap.size v' ys) (hf : Fr wr w' p v.ownBlock v'.ownBlock) : BW e t w w' b p box tb v' ys := by
  refine ⟨(hf.block b (Array.getElem?_eq_some_iff.1 h.box).1 h.ne (fun e1 => ?_)).trans h.box, hp, hv, hf.below h.below h.below.size h.lp (fun k hk => (h.row.typed hk).1), h.lo, h.lp, h.ne⟩
  obtain ⟨_, _, cur, fz, hc⟩ := h.row.typed e1.symm
  rw [h.box] at hc
  injection hc with hc
  injection hc with _ hc
  exact he hc.symm
theorem RowM.nil (e : TypeId) (w : World) (base : Nat) : RowM e w base (.slice none 0 0) [] := .inl (own_nil w base e 1)
/-- The letters of a frame's body. -/
def flagL (b : Bool) : List Int := [48 + b2 b]
def dataL (l : List Int) : List Int := l.flatMap fun x => numL x.toNat 8
def headL (ext : Bool) (id : Int) (rtr : Bool) : List Int :=
  if ext = true then numL 0 1 ++ numL (id.toNat / 262144) 11 ++ numL 3 2 ++ numL id.toNat 18 ++ flagL rtr ++ numL 0 2 else numL 0 1 ++ numL id.toNat 11 ++ flagL rtr ++ numL 0 2
def bodyL (ext : Bool) (id : Int) (rtr : Bool) (dlc : Int) (data : List Int) : List Int := headL ext id rtr ++ numL dlc.toNat 4 ++ dataL data
theorem headL_length (ext : Bool) (id : Int) (rtr : Bool) : (headL ext id rtr).length ≤ 35 := by
  cases ext <;> simp [headL, numL_length, flagL]
theorem dataL_length (l : List Int) : (dataL l).length = 8 * l.length := by
  induction l with
  | nil => rfl
  | cons a l ih => rw [dataL, List.flatMap_cons, List.length_append, numL_length, List.length_cons]; unfold dataL at ih; omega
theorem dataL_snoc (l : List Int) (x : Int) : dataL (l ++ [x]) = dataL l ++ numL x.toNat 8 := by simp [dataL, List.flatMap_append]
end Go.Proofs.Ytogedkkdhonmlaa.P

namespace Go.Proofs.Ytogedkkdhonmlaa.P
open Go.RowKit Go.Proofs.YtogedkkdhonmlaaW.PrintWords Go.Proofs.YtogedkkdhonmlaaW.PrintLast Go.Proofs.YtogedkkdhonmlaaW.PrintMore
attribute [local go_sem] max2_int min2_int max_two min_two max_three min_three max_four min_four
set_option linter.unusedVariables false
set_option linter.unusedSimpArgs false

-- GIVEN rounds=0 making=1 import=Derived.Test.YtogedkkdhonmlaaRow8
/-! ### impl_packer_bit: function 63 -/
def packRow (ws : List Int) (n : Nat) : List Int := if n % 64 = 0 then ws ++ [0] else ws
theorem box2_0 {v0 v1 : Value} : (#[v0, v1] : Array Value)[0]? = some v0 := rfl
theorem box2_1 {v0 v1 : Value} : (#[v0, v1] : Array Value)[1]? = some v1 := rfl
theorem infoU64 : (Try.prog.info? 71).map (fun i => (i.zero, i.size, i.bytes)) = some (some (.int .u64 0), 1, 8) := by kernel_rfl
/-- What is known when a word has been put behind the row. -/
structure PkAt (w0 w w1 : World) (S : Nat → Prop) (p n : Nat) (ws ws1 : List Int) (g c1 : Nat) (v1 : Value) : Prop where
  row : Kd.R (Kd.int .u64) 71 w1 w0.heap.size S (.slice (some ⟨g, 0, none⟩) ws1.length c1) ws1
  ptr : w1.heap[p]? = some (.cells #[.int .i64 n, v1] 73 (0, 0))
  below : Below w0.heap.size w0 w1
  kept : Kept w w1 (fun k => k = p ∨ S k)
  len : ws1.length = n / 64 + 1
  words : ws1 = packRow ws n
  own : S g
theorem pk_append {w0 w w1 : World} {S : Nat → Prop} {p n : Nat} {ws : List Int} {v v1 : Value} (hp : w.heap[p]? = some (.cells #[.int .i64 n, v] 73 (0, 0))) (hv : Kd.R (Kd.int .u64) 71 w w0.heap.size S v ws) (hS : ¬ S p) (hl : ws.length = (n + 63) / 64) (c : n % 64 = 0)
    (ho : Kd.R (Kd.int .u64) 71 w1 w0.heap.size S v1 (ws ++ [0])) (hb : Below w0.heap.size w0 w1) (hg : w.grownBy w1 v.ownBlock) : ∃ (g c1 : Nat) (ws1 : List Int), v1 = .slice (some ⟨g, 0, none⟩) ws1.length c1 ∧ PkAt w0 w w1 S p n ws ws1 g c1 v := by
  obtain ⟨g, c1, e1, -, -, -, -⟩ := Kd.R_form ho (by simp)
  subst e1
  exact ⟨g, c1, ws ++ [0], rfl, ho, blk_grown hp hg (fun e => hS (hv.1 p e.symm)), hb, Kept.of_grown hg (Kept.refl _ _) (fun k hk => .inl (.inr (hv.1 k hk))), by rw [List.length_append]; simp; omega, by unfold packRow; rw [if_pos c], ho.1 g rfl⟩
theorem pk_same {w0 w : World} {S : Nat → Prop} {p n : Nat} {ws : List Int} {v : Value} (hp : w.heap[p]? = some (.cells #[.int .i64 n, v] 73 (0, 0))) (hv : Kd.R (Kd.int .u64) 71 w w0.heap.size S v ws) (hB : Below w0.heap.size w0 w) (hl : ws.length = (n + 63) / 64) (c : ¬ n % 64 = 0) : ∃ (g c1 : Nat), v = .slice (some ⟨g, 0, none⟩) ws.length c1 ∧ PkAt w0 w w S p n ws ws g c1 v := by
  obtain ⟨g, c1, e1, -, -, -, -⟩ := Kd.R_form hv (by omega)
  subst e1
  exact ⟨g, c1, rfl, hv, hp, hB, Kept.refl _ _, by omega, by unfold packRow; rw [if_neg c], hv.1 g rfl⟩
/-- The facts that the walk reads. -/
theorem PkAt.facts {w0 w w1 : World} {S : Nat → Prop} {p n : Nat} {ws ws1 : List Int} {g c1 : Nat} {v1 : Value} (h : PkAt w0 w w1 S p n ws ws1 g c1 v1) (hS : ¬ S p) :
    g ≠ p ∧ p ≠ g ∧ ((0 ≤ (n : Int) / 64) = True) ∧ (((n : Int) / 64 < (ws1.length : Int)) = True) ∧ w1.cell? ⟨g, n / 64, none⟩ = some (.int .u64 (rd ws1 ((n / 64 : Nat) : Int))) ∧ w1.frozen? ⟨g, n / 64, none⟩ = false ∧ w1.cell? ⟨p, 0, none⟩ = some (.int .i64 n) ∧ w1.cell? ⟨p, 1, none⟩ = some v1 ∧ w1.frozen? ⟨p, 0, none⟩ = false ∧ w1.frozen? ⟨p, 1, none⟩ = false := by
  have hgp : g ≠ p := fun e => hS (e ▸ h.own)
  have p5 : 0 ≤ (n : Int) / 64 := by omega
  have q5 : (n : Int) / 64 < (ws1.length : Int) := by have := h.len; omega
  obtain ⟨hx, hf⟩ := Kd.R_celln 0 h.row ((n / 64 : Nat) : Int) (by omega) (by omega)
  rw [Int.toNat_natCast] at hx hf
  exact ⟨hgp, fun e => hgp e.symm, eq_true p5, eq_true q5, hx, hf, blk_cell h.ptr 0, blk_cell h.ptr 1, blk_frozen h.ptr 0, blk_frozen h.ptr 1⟩
/-- What a bit makes of the row. -/
def packBit (ws : List Int) (n : Nat) (b : Int) : List Int := (packRow ws n).set (n / 64) (Go.bits .or .u64 (rd (packRow ws n) ((n / 64 : Nat) : Int)) (IntKind.u64.wrap (b * 2 ^ (63 - n % 64))))
theorem pk_mid {w0 w w1 : World} {S : Nat → Prop} {p n : Nat} {ws ws1 : List Int} {g c1 : Nat} {v1 V : Value} (h : PkAt w0 w w1 S p n ws ws1 g c1 v1) (hS : ¬ S p) (hpl : w0.heap.size ≤ p) : PkAt w0 w (w1.setCell ⟨p, 1, none⟩ V) S p n ws ws1 g c1 V := by
  refine ⟨Kd.R_step h.row (fun k hk _ => Below.heap_setCell _ _ _ k (fun e => hS ((show k = p from e) ▸ hk))), ?_, h.below.setCell hpl _, h.kept.setCell (.inl (.inl rfl)) _, h.len, h.words, h.own⟩
  simp only [World.setCell, Array.getElem?_modify, h.ptr]
  simp
theorem pk_end {w0 w w1 : World} {S : Nat → Prop} {p n : Nat} {ws ws1 : List Int} {g c1 : Nat} (x m : Int) (h : PkAt w0 w w1 S p n ws ws1 g c1 (.slice (some ⟨g, 0, none⟩) ws1.length c1)) (hS : ¬ S p) (hpl : w0.heap.size ≤ p) :
    ∃ v', ((w1.setCell ⟨g, n / 64, none⟩ (.int .u64 x)).setCell ⟨p, 0, none⟩ (.int .i64 m)).heap[p]? = some (.cells #[.int .i64 m, v'] 73 (0, 0)) ∧ Kd.R (Kd.int .u64) 71 ((w1.setCell ⟨g, n / 64, none⟩ (.int .u64 x)).setCell ⟨p, 0, none⟩ (.int .i64 m)) w0.heap.size S v' (ws1.set (n / 64) x) ∧ Below w0.heap.size w0 ((w1.setCell ⟨g, n / 64, none⟩ (.int .u64 x)).setCell ⟨p, 0, none⟩ (.int .i64 m)) ∧ Kept w ((w1.setCell ⟨g, n / 64, none⟩ (.int .u64 x)).setCell ⟨p, 0, none⟩ (.int .i64 m)) (fun k => k = p ∨ S k) := by
  obtain ⟨h1, h2⟩ := Kd.R_putg h.row ((n / 64 : Nat) : Int) x
  rw [Int.toNat_natCast] at h1 h2
  obtain ⟨_, c2, e2, hgb, -, -, -⟩ := Kd.R_form h.row (by have := h.len; omega)
  injection e2 with e2 _ _
  injection e2 with e2
  injection e2 with e2 _ _
  subst e2
  have hp2 := blk_grown h.ptr h2 (fun e => hS (by injection e with e; exact e ▸ h.own))
  have hb3 := h.below.setCell (p := ⟨g, n / 64, none⟩) hgb (.int .u64 x)
  have hk3 := Kept.of_grown h2 h.kept (fun k hk => by injection hk with hk; exact .inl (.inr (hk ▸ h.own)))
  clear h2
  generalize w1.setCell ⟨g, n / 64, none⟩ (.int .u64 x) = W2 at h1 hp2 hb3 hk3 ⊢
  refine ⟨_, ?_, Kd.R_step h1 (fun k hk _ => Below.heap_setCell _ _ _ k (fun e => hS ((show k = p from e) ▸ hk))), ?_, hk3.setCell (.inl (.inl rfl)) _⟩
  · simp only [World.setCell, Array.getElem?_modify, hp2]
    simp
  · exact hb3.setCell hpl _
set_option maxHeartbeats 4000000 in
theorem impl_packer_bit.calls (p : Nat) (v : Value) (ws : List Int) (n : Nat) (b : Int) (S : Nat → Prop) (w0 w : World) (hp : w.heap[p]? = some (.cells #[.int .i64 n, v] 73 (0, 0))) (hv : Kd.R (Kd.int .u64) 71 w w0.heap.size S v ws) (hB : Below w0.heap.size w0 w) (hpl : w0.heap.size ≤ p) (hS : ¬ S p) (hF : ∀ k, w.heap.size ≤ k → S k) (hn : n < 10000) (hl : ws.length = (n + 63) / 64) :
    Calls Try.prog 63 #[.pointer (some ⟨p, 0, none⟩), .int .u64 b] w fun e w' => e = .returned (.tuple #[]) ∧ ∃ v', w'.heap[p]? = some (.cells #[.int .i64 ((n + 1 : Nat) : Int), v'] 73 (0, 0)) ∧ Kd.R (Kd.int .u64) 71 w' w0.heap.size S v' (packBit ws n b) ∧ Below w0.heap.size w0 w' ∧ Kept w w' (fun k => k = p ∨ S k) := by
  have HP := Lib.hid hp
  have HV := Lib.hid hv
  have HB := Lib.hid hB
  have hc0 := blk_cell hp 0
  have hc1 := blk_cell hp 1
  have hf0 := blk_frozen hp 0
  have hf1 := blk_frozen hp 1
  simp only [box2_0, box2_1] at hc0 hc1
  have HL := Lib.hid hl
  clear hp hv hB hl
  by_cases c : n % 64 = 0
  · have hm : (Int.tmod (n : Int) 64 == 0) = true := by rw [Int.tmod_eq_emod_of_nonneg (by omega)]; simp; omega
    go_enter Try.func63, Try.ntmps63
    go_wp2_with (first | (at_builtin; refine Kd.R_append (Kd.int .u64) (w0 := w0) w0.heap.size rfl (.tmp 18) (.tmp 19) 28 71 (.int .u64 0) 8 rfl Try.underlying28 infoU64 rfl (by decide) (by omega) v ws 0 [.int .u64 0] S (fun _ => False) rfl rfl ?aP (fun _ hk => hk.elim) hF ?aO ?aB ?aS ?aL ?_; (case aP => exact rfl); (case aO => exact HV.out); (case aB => exact HB.out); (case aS => exact HB.out.size); (case aL => have := HL.out; omega); intro v1 w1 ho hb hg hat; obtain ⟨g, c1, ws1, e1, hpk⟩ := pk_append HP.out HV.out hS HL.out c ho hb hg; subst e1; have HPK := Lib.hid hpk; clear ho hb hg hat hc0 hc1 hf0 hf1 hpk; obtain ⟨hgp, hpg, p5, q5, hx0, hfx0, hc0, hc1, hf0, hf1⟩ := PkAt.facts HPK.out hS))
    go_end0
    have hw : packBit ws n b = ws1.set (n / 64) (Go.bits .or .u64 (rd ws1 ((n / 64 : Nat) : Int)) (IntKind.u64.wrap (b * 9223372036854775808))) := by unfold packBit; rw [← HPK.out.words, c]; rfl
    rw [hw]
    exact ⟨rfl, pk_end _ _ (pk_mid HPK.out hS hpl) hS hpl⟩
  · have hm : (Int.tmod (n : Int) 64 == 0) = false := by rw [Int.tmod_eq_emod_of_nonneg (by omega)]; simp; omega
    have hm2 : ((n : Int) % 64 == 0) = false := by simp; omega
    obtain ⟨g, c1, e1, hpk⟩ := pk_same HP.out HV.out HB.out HL.out c
    subst e1
    have HPK := Lib.hid hpk
    clear hc0 hc1 hf0 hf1 hpk
    obtain ⟨hgp, hpg, p5, q5, hx0, hfx0, hc0, hc1, hf0, hf1⟩ := PkAt.facts HPK.out hS
    go_enter Try.func63, Try.ntmps63
    go_wp2_with (fail)
    go_end0
    have hw : packBit ws n b = ws.set (n / 64) (Go.bits .or .u64 (rd ws ((n / 64 : Nat) : Int)) (IntKind.u64.wrap (b * 2 ^ (63 - n % 64)))) := by unfold packBit; rw [← HPK.out.words]
    rw [hw]
    exact ⟨rfl, pk_end _ _ HPK.out hS hpl⟩

end Go.Proofs.Ytogedkkdhonmlaa.P

namespace Go.Proofs.Ytogedkkdhonmlaa.P
open Go.RowKit Go.Proofs.YtogedkkdhonmlaaW.PrintWords Go.Proofs.YtogedkkdhonmlaaW.PrintLast Go.Proofs.YtogedkkdhonmlaaW.PrintMore
attribute [local go_sem] max2_int min2_int max_two min_two max_three min_three max_four min_four
set_option linter.unusedVariables false
set_option linter.unusedSimpArgs false

-- GIVEN rounds=0 making=1 import=Derived.Test.YtogedkkdhonmlaaRow8
/-! ### impl_packer_finish: function 64 -/
theorem fbox2_0 {v0 v1 : Value} : (#[v0, v1] : Array Value)[0]? = some v0 := rfl
theorem fbox2_1 {v0 v1 : Value} : (#[v0, v1] : Array Value)[1]? = some v1 := rfl
theorem impl_packer_finish.calls (p : Nat) (n : Int) (A : Option Addr) (L c : Nat) (w : World) (hp : w.heap[p]? = some (.cells #[.int .i64 n, .slice A L c] 73 (0, 0))) :
    Calls Try.prog 64 #[.pointer (some ⟨p, 0, none⟩)] w fun e w' => e = .returned (.agg #[.int .i64 n, .slice A L c]) ∧ Below w.heap.size w w' := by
  have hu33 := Try.underlying33
  have hc0 := blk_cell hp 0
  have hc1 := blk_cell hp 1
  simp only [fbox2_0, fbox2_1] at hc0 hc1
  have hpl : p < w.heap.size := (Array.getElem?_eq_some_iff.1 hp).1
  have hpl2 : p ≠ w.heap.size := by omega
  clear hp
  go_enter Try.func64, Try.ntmps64
  go_wp2_with (fail)
  refine bodyPost_ret (results_cell_row rfl _ _ w.heap.size 33 #[.int .i64 n, .slice A L c] (0, 0) _ rfl (blk_new _ _) Try.underlying33 rfl (by kernel_rfl)) rfl ?_
  exact ⟨rfl, (Below.refl _ _).alloc (Nat.le_refl _) _⟩

end Go.Proofs.Ytogedkkdhonmlaa.P
