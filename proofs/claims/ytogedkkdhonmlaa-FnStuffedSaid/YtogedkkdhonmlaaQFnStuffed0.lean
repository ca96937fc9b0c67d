import Derived.Test.YtogedkkdhonmlaaProg
import Derived.Below
import Derived.Deep.Draws
import Derived.Deep.AppendLies
import Derived.Maps.AppendAt
import Derived.OwnWalk
import Derived.Laws.BytesArg
import Derived.Laws.MakeOwn
import Derived.Laws.OwnMore
import Derived.Deep.OwnRows
import Derived.Tactics
import Derived.Lib.ConvBytes
import Derived.Laws.Slices
import Derived.WalkKit
import Derived.KernelRfl
import Derived.RowKit3
import Derived.Deep.LoopGhost
import Derived.Deep.QuietTactic
import Derived.BigQuiet
import Derived.WideLaws
import Derived.Deep.DeepCutAuto
import Derived.Deep.CutBlock
import Derived.Deep.RegionHeld3
import Derived.Laws.Rows
import Derived.Lib.AppendStr
import Derived.ArgAppend
import Derived.Laws.IdiomCopy
import Derived.OrdersHeld
import Derived.Laws.BitsLemmas
import Derived.RowKit
import Derived.Test.YtogedkkdhonmlaaWWords
import Derived.Test.YtogedkkdhonmlaaWLast
import Derived.Test.YtogedkkdhonmlaaWTab
import Derived.Test.YtogedkkdhonmlaaWFour
import Derived.Test.YtogedkkdhonmlaaWQPut
import Derived.Test.YtogedkkdhonmlaaWApart
import Derived.Test.YtogedkkdhonmlaaWArr
import Derived.Test.YtogedkkdhonmlaaWZeros
import Derived.Test.YtogedkkdhonmlaaWFoot
import Derived.Test.YtogedkkdhonmlaaWKept
import Derived.Test.YtogedkkdhonmlaaWShare
import Derived.Test.YtogedkkdhonmlaaWN
import Derived.Test.YtogedkkdhonmlaaWFootNe
import Derived.Test.YtogedkkdhonmlaaWAt
import Derived.Test.YtogedkkdhonmlaaWEqStruct
import Derived.Test.YtogedkkdhonmlaaWRepsOne
import Derived.Test.YtogedkkdhonmlaaWInv
import Derived.Test.YtogedkkdhonmlaaWInvWords
import Derived.Test.YtogedkkdhonmlaaWGuard
import Derived.Test.YtogedkkdhonmlaaWNEv
import Derived.Test.YtogedkkdhonmlaaWMore
import Derived.Lib.Hide
import Derived.Laws.RangeAny
import Derived.Lib.OthersKept

namespace Go.Proofs.Ytogedkkdhonmlaa.P
open Go.RowKit Go.Proofs.YtogedkkdhonmlaaW.PrintWords Go.Proofs.YtogedkkdhonmlaaW.PrintLast Go.Proofs.YtogedkkdhonmlaaW.PrintMore
attribute [local go_sem] max2_int min2_int max_two min_two max_three min_three max_four min_four
set_option linter.unusedVariables false
set_option linter.unusedSimpArgs false

def errW : Option Int → Value
  | none => .nilIface
  | some c => .iface 0 (.int .i64 c)
theorem errW_none : errW none = .nilIface := rfl
theorem errW_some (c : Int) : errW (some c) = .iface 0 (.int .i64 c) := rfl

theorem info3 : (Try.prog.info? 3).map (fun i => (i.zero, i.size, i.bytes)) = some (some (.int .i64 0), 1, 8) := by kernel_rfl
theorem info5 : (Try.prog.info? 5).map (fun i => (i.zero, i.size, i.bytes)) = some (some (.int .u8 0), 1, 1) := by kernel_rfl
-- the values' own types

theorem info71 : (Try.prog.info? 71).map (fun i => (i.zero, i.size, i.bytes)) = some (some (.int .u64 0), 1, 8) := by kernel_rfl
def rd_L4 (xs : List (List Int)) (i : Int) : (List Int) := xs.getD i.toNat ([] : List Int)
theorem at_L4 {w : World} {A : Option Addr} {n : Nat} {xs : List (List Int)} (h : Kd.C (Kd.slice 71 (Kd.int .u64)) w A n xs) (i : Int) (h0 : 0 ≤ i) (h1 : i < n) : ∃ ad A0 c0, A = some ad ∧ w.cell? (ad.add i.toNat) = some (.slice A0 (rd_L4 xs i).length c0) ∧ (rd_L4 xs i).length ≤ c0 ∧ (Kd.int .u64).C w A0 (rd_L4 xs i).length (rd_L4 xs i) := by
  obtain ⟨ad, c, e, _, hK, hc0⟩ := Kd.C_get h ([] : List Int) i h0 h1
  have hc : ∀ j u, c[j]? = some u → w.cell? (ad.add (i.toNat * 1 + j)) = some u := hc0
  obtain ⟨A0, c0, rfl, l0, g0⟩ := hK
  exact ⟨ad, A0, c0, e, by have hq := hc 0 _ rfl; rwa [Nat.mul_one, Nat.add_zero] at hq, l0, g0⟩

/-! #### struct type 33 -/
structure S33 where
  f0 : Int
  f1 : (List Int)
def z33 : S33 := ⟨(0 : Int), ([] : List Int)⟩
def k33 : Kd S33 := Kd.iso (Kd.pair (Kd.int .i64) (Kd.slice 71 (Kd.int .u64))) (fun x : S33 => (x.f0, x.f1))
theorem k33_open {w : World} {x : S33} {cs : List Value} (h : k33.K w x cs) : ∃ A1 c1, cs = [.int .i64 x.f0, .slice A1 x.f1.length c1] ∧ x.f1.length ≤ c1 ∧ (Kd.int .u64).C w A1 x.f1.length x.f1 := by
  obtain ⟨_, _, rfl, rfl, ⟨A1, c1, rfl, l1, g1⟩⟩ := h
  exact ⟨A1, c1, rfl, l1, g1⟩
theorem k33_openM {w : World} {base : Nat} {ok : Nat → Prop} {x : S33} {cs : List Value} (h : k33.M w base ok x cs) : ∃ v1, cs = [.int .i64 x.f0, v1] ∧ (Kd.int .u64).R 71 w base ok v1 x.f1 := by
  obtain ⟨_, _, rfl, rfl, ⟨v1, rfl, g1⟩⟩ := h
  exact ⟨v1, rfl, g1⟩
theorem k33_mk (w : World) (x : S33) {A1 : Option Addr} {c1 : Nat} (l1 : x.f1.length ≤ c1) (g1 : (Kd.int .u64).C w A1 x.f1.length x.f1) : k33.K w x [.int .i64 x.f0, .slice A1 x.f1.length c1] := ⟨[.int .i64 x.f0], [.slice A1 x.f1.length c1], rfl, rfl, ⟨A1, c1, rfl, l1, g1⟩⟩
theorem k33_mkM (w : World) (base : Nat) (ok : Nat → Prop) (x : S33) {v1 : Value} (g1 : (Kd.int .u64).R 71 w base ok v1 x.f1) : k33.M w base ok x [.int .i64 x.f0, v1] := ⟨[.int .i64 x.f0], [v1], rfl, rfl, ⟨v1, rfl, g1⟩⟩
def rd_T33 (xs : List S33) (i : Int) : S33 := xs.getD i.toNat z33
theorem at_T33 {w : World} {A : Option Addr} {n : Nat} {xs : List S33} (h : Kd.C k33 w A n xs) (i : Int) (h0 : 0 ≤ i) (h1 : i < n) : ∃ ad A1 c1, A = some ad ∧ w.cell? (ad.add (i.toNat * 2)) = some (.int .i64 (rd_T33 xs i).f0) ∧ w.cell? ⟨(ad.add (i.toNat * 2)).block, (ad.add (i.toNat * 2)).off + 1, none⟩ = some (.slice A1 (rd_T33 xs i).f1.length c1) ∧ (rd_T33 xs i).f1.length ≤ c1 ∧ (Kd.int .u64).C w A1 (rd_T33 xs i).f1.length (rd_T33 xs i).f1 := by
  obtain ⟨ad, c, e, _, hK, hc0⟩ := Kd.C_get h z33 i h0 h1
  have hc : ∀ j u, c[j]? = some u → w.cell? (ad.add (i.toNat * 2 + j)) = some u := hc0
  obtain ⟨A1, c1, rfl, l1, g1⟩ := k33_open hK
  exact ⟨ad, A1, c1, e, hc 0 _ rfl, by rw [← add_field _ _ 1 (by omega)]; exact hc 1 _ rfl, l1, g1⟩

end Go.Proofs.Ytogedkkdhonmlaa.P

namespace Go.Proofs.Ytogedkkdhonmlaa.P
open Go.RowKit Go.Proofs.YtogedkkdhonmlaaW.PrintWords Go.Proofs.YtogedkkdhonmlaaW.PrintLast Go.Proofs.YtogedkkdhonmlaaW.PrintMore
attribute [local go_sem] max2_int min2_int max_two min_two max_three min_three max_four min_four
set_option linter.unusedVariables false
set_option linter.unusedSimpArgs false

/-! ### spec_l1okBits: function 46 -/
def spec_l1okBits.l0 : Nat → ByteArray → Int → Option (Bool)
  | 0, _, _ => none
  | k + 1, x0, x5 => if x5 < (x0.size : Int) then (if 0 ≤ x5 then (if (bt x0 x5) = 48 then (spec_l1okBits.l0 k x0 (wrap64 (x5 + 1))) else (if (bt x0 x5) = 49 then (spec_l1okBits.l0 k x0 (wrap64 (x5 + 1))) else (some false))) else (none)) else (some true)
def spec_l1okBits.f (k : Nat) (a0 : ByteArray) (a1 : Int) : Option (Bool) := if (a0.size : Int) > a1 then (some false) else (spec_l1okBits.l0 k a0 0)
theorem spec_l1okBits.mono_l : ∀ k, (∀ y0 y1, LeO (spec_l1okBits.l0 k y0 y1) (spec_l1okBits.l0 (k + 1) y0 y1))
  | 0 => fun _ _ r h => by simp [spec_l1okBits.l0] at h
  | k + 1 => by
    have ih0 := spec_l1okBits.mono_l k
    · intro y0 y1
      unfold spec_l1okBits.l0
      repeat' first
      | (with_reducible exact ih0 _ _)
      | (with_reducible exact LeO.refl _)
      | (with_reducible exact LeO.none _)
      | (with_reducible refine LeO.ite ?_ ?_)
      | (with_reducible refine LeO.bind ?_ (fun _ => ?_))
      | exact ih0 _ _
      | exact LeO.none _
      | refine LeO.ite ?_ ?_
      | refine LeO.bind ?_ (fun _ => ?_)
theorem spec_l1okBits.mono : ∀ a0 a1 k, LeO (spec_l1okBits.f k a0 a1) (spec_l1okBits.f (k + 1) a0 a1) := by
  intro a0 a1 k
  have ih0 := spec_l1okBits.mono_l k
  unfold spec_l1okBits.f
  repeat' first
      | (with_reducible exact ih0 _ _)
      | (with_reducible exact LeO.refl _)
      | (with_reducible exact LeO.none _)
      | (with_reducible refine LeO.ite ?_ ?_)
      | (with_reducible refine LeO.bind ?_ (fun _ => ?_))
      | exact ih0 _ _
      | exact LeO.none _
      | refine LeO.ite ?_ ?_
      | refine LeO.bind ?_ (fun _ => ?_)
set_option maxHeartbeats 8000000 in
set_option maxRecDepth 100000 in
theorem spec_l1okBits.calls (k : Nat) (a0 : ByteArray) (a1 : Int) (r : Bool) (w : World) (h : spec_l1okBits.f k a0 a1 = some r) :
    Calls Try.prog 46 #[.string a0, .int .i64 a1] w fun e w' => e = .returned (.bool r) ∧ Drawn0 w w' := by
  have H : (if (a0.size : Int) > a1 then (some false) else (spec_l1okBits.l0 k a0 0)) = some r := h
  clear h
  by_cases c3 : (a0.size : Int) > a1
  · rw [if_pos c3] at H
    have c3b0 : decide (a1 < (a0.size : Int)) = true := decide_eq_true c3
    clear c3
    obtain rfl := Option.some.inj H
    go_enter Try.func46, Try.ntmps46
    go_wp2
    go_ret
    exact ⟨by first | rfl | (simp; done) | (simp [*]; done), by repeat (first | exact Drawn0.refl _ | apply Drawn0.step)⟩
  · rw [if_neg c3] at H
    have c3b0 : decide (a1 < (a0.size : Int)) = false := decide_eq_false c3
    clear c3
    have H' := Aside0.mk H
    clear H
    go_enter Try.func46, Try.ntmps46
    go_wp2
    go_loopg [5] k (fun kq v5 w' => ∃ (x5_1 : Int), v5 = .int .i64 x5_1 ∧ Aside0 (spec_l1okBits.l0 kq a0 x5_1 = some r) ∧ Aside0 (kq ≤ k) ∧ Drawn0 w w')
    case atStart => exact ⟨(0), (by first | rfl | (simp; done) | (simp [*]; done)), H', ⟨Nat.le_refl _⟩, by repeat (first | exact Drawn0.refl _ | apply Drawn0.step)⟩
    case round =>
      clear H'
      try clear p2
      try clear c3
      try clear c3b0
      obtain ⟨x5_1, rfl, HA, HK1, ⟨m1, rfl⟩⟩ := hrel
      cases gk with
      | zero => exact absurd HA.out (by simp [spec_l1okBits.l0])
      | succ k1 =>
        have H := HA.out
        clear HA
        simp only [spec_l1okBits.l0] at H
        by_cases c4 : x5_1 < (a0.size : Int)
        · rw [if_pos c4] at H
          have c4b0 : decide (x5_1 < (a0.size : Int)) = true := decide_eq_true c4
          clear c4
          by_cases c5 : 0 ≤ x5_1
          · rw [if_pos c5] at H
            have c5b0 : decide (0 ≤ x5_1) = true := decide_eq_true c5
            clear c5
            by_cases c7 : (bt a0 x5_1) = 48
            · rw [if_pos c7] at H
              have c7b0 : ((bt a0 x5_1) == 48) = true := beq_iff_eq.mpr c7
              have c7b1 : ((bt a0 x5_1) != 48) = false := bne_eq_false_iff_eq.mpr c7
              clear c7
              have H' := Aside0.mk H
              clear H
              have p6 : 0 ≤ (x5_1 : Int) := of_decide_eq_true (by first | (with_reducible assumption) | assumption)
              have q6 : x5_1 < (a0.size : Int) := of_decide_eq_true (by first | (with_reducible assumption) | assumption)
              have hx6 := bt_at a0 x5_1
              replace p6 := eq_true p6
              replace q6 := eq_true q6
              go_wp2
              go_roundg k1
              case measure => have := HK1.out; omega
              case rel => exact ⟨(wrap64 (x5_1 + 1)), (by first | rfl | (simp; done) | (simp [*]; done)), H', ⟨by have := HK1.out; omega⟩, by repeat (first | exact Drawn0.refl _ | apply Drawn0.step)⟩
            · rw [if_neg c7] at H
              have c7b0 : ((bt a0 x5_1) == 48) = false := beq_eq_false_iff_ne.mpr c7
              have c7b1 : ((bt a0 x5_1) != 48) = true := bne_iff_ne.mpr c7
              by_cases c9 : (bt a0 x5_1) = 49
              · rw [if_pos c9] at H
                have c9b0 : ((bt a0 x5_1) == 49) = true := beq_iff_eq.mpr c9
                have c9b1 : ((bt a0 x5_1) != 49) = false := bne_eq_false_iff_eq.mpr c9
                clear c9
                have H' := Aside0.mk H
                clear H
                have p6 : 0 ≤ (x5_1 : Int) := of_decide_eq_true (by first | (with_reducible assumption) | assumption)
                have q6 : x5_1 < (a0.size : Int) := of_decide_eq_true (by first | (with_reducible assumption) | assumption)
                have hx6 := bt_at a0 x5_1
                replace p6 := eq_true p6
                replace q6 := eq_true q6
                have p8 : 0 ≤ (x5_1 : Int) := of_decide_eq_true (by first | (with_reducible assumption) | assumption)
                have q8 : x5_1 < (a0.size : Int) := of_decide_eq_true (by first | (with_reducible assumption) | assumption)
                have hx8 := bt_at a0 x5_1
                replace p8 := eq_true p8
                replace q8 := eq_true q8
                go_wp2
                go_roundg k1
                case measure => have := HK1.out; omega
                case rel => exact ⟨(wrap64 (x5_1 + 1)), (by first | rfl | (simp; done) | (simp [*]; done)), H', ⟨by have := HK1.out; omega⟩, by repeat (first | exact Drawn0.refl _ | apply Drawn0.step)⟩
              · rw [if_neg c9] at H
                have c9b0 : ((bt a0 x5_1) == 49) = false := beq_eq_false_iff_ne.mpr c9
                have c9b1 : ((bt a0 x5_1) != 49) = true := bne_iff_ne.mpr c9
                obtain rfl := Option.some.inj H
                have p6 : 0 ≤ (x5_1 : Int) := of_decide_eq_true (by first | (with_reducible assumption) | assumption)
                have q6 : x5_1 < (a0.size : Int) := of_decide_eq_true (by first | (with_reducible assumption) | assumption)
                have hx6 := bt_at a0 x5_1
                replace p6 := eq_true p6
                replace q6 := eq_true q6
                have p8 : 0 ≤ (x5_1 : Int) := of_decide_eq_true (by first | (with_reducible assumption) | assumption)
                have q8 : x5_1 < (a0.size : Int) := of_decide_eq_true (by first | (with_reducible assumption) | assumption)
                have hx8 := bt_at a0 x5_1
                replace p8 := eq_true p8
                replace q8 := eq_true q8
                go_wp2
                go_ret
                exact ⟨by first | rfl | (simp; done) | (simp [*]; done), by repeat (first | exact Drawn0.refl _ | apply Drawn0.step)⟩
          · rw [if_neg c5] at H
            exact absurd H (by simp)
        · rw [if_neg c4] at H
          have c4b0 : decide (x5_1 < (a0.size : Int)) = false := decide_eq_false c4
          clear c4
          obtain rfl := Option.some.inj H
          go_wp2
          go_ret
          exact ⟨by first | rfl | (simp; done) | (simp [*]; done), by repeat (first | exact Drawn0.refl _ | apply Drawn0.step)⟩

end Go.Proofs.Ytogedkkdhonmlaa.P

namespace Go.Proofs.Ytogedkkdhonmlaa.P
open Go.RowKit Go.Proofs.YtogedkkdhonmlaaW.PrintWords Go.Proofs.YtogedkkdhonmlaaW.PrintLast Go.Proofs.YtogedkkdhonmlaaW.PrintMore
attribute [local go_sem] max2_int min2_int max_two min_two max_three min_three max_four min_four
set_option linter.unusedVariables false
set_option linter.unusedSimpArgs false

/-! ### spec_Crc15: function 15 -/
mutual
def spec_Crc15.l0 : Nat → ByteArray → List Int → Int → Option (Int)
  | 0, _, _, _ => none
  | k + 1, x0, x3, x4 => if x4 < (x0.size : Int) then (if 0 ≤ x4 then (if x3.length < 140737488355328 then (spec_Crc15.l0 k x0 (x3 ++ [((bt x0 x4) - 48) % 256]) (wrap64 (x4 + 1))) else (none)) else (none)) else (spec_Crc15.l1 k x3 0)
def spec_Crc15.l1 : Nat → List Int → Int → Option (Int)
  | 0, _, _ => none
  | k + 1, x3, x5 => if x5 < 15 then (if x3.length < 140737488355328 then (spec_Crc15.l1 k (x3 ++ [0]) (wrap64 (x5 + 1))) else (none)) else (spec_Crc15.l2 k x3 (⟨#[49, 49, 48, 48, 48, 49, 48, 49, 49, 48, 48, 49, 49, 48, 48, 49]⟩ : ByteArray) 0)
def spec_Crc15.l2 : Nat → List Int → ByteArray → Int → Option (Int)
  | 0, _, _, _ => none
  | k + 1, x3, x6, x7 => if (wrap64 (x7 + 15)) < (x3.length : Int) then (if 0 ≤ x7 then (if x7 < (x3.length : Int) then (if (rd x3 x7) = 1 then (spec_Crc15.l3 k x3 x6 x7 0) else (spec_Crc15.l2 k x3 x6 (wrap64 (x7 + 1)))) else (none)) else (none)) else (spec_Crc15.l4 k x3 0 (wrap64 ((x3.length : Int) - 15)))
def spec_Crc15.l3 : Nat → List Int → ByteArray → Int → Int → Option (Int)
  | 0, _, _, _, _ => none
  | k + 1, x3, x6, x7, x8 => if x8 < 16 then (if 0 ≤ (wrap64 (x7 + x8)) then (if (wrap64 (x7 + x8)) < (x3.length : Int) then (if 0 ≤ x8 then (if x8 < (x6.size : Int) then (spec_Crc15.l3 k (x3.set ((wrap64 (x7 + x8)) : Int).toNat (Go.bits .xor .u8 (rd x3 (wrap64 (x7 + x8))) (((bt x6 x8) - 48) % 256))) x6 x7 (wrap64 (x8 + 1))) else (none)) else (none)) else (none)) else (none)) else (spec_Crc15.l2 k x3 x6 (wrap64 (x7 + 1)))
def spec_Crc15.l4 : Nat → List Int → Int → Int → Option (Int)
  | 0, _, _, _ => none
  | k + 1, x3, x9, x10 => if x10 < (x3.length : Int) then (if 0 ≤ x10 then (spec_Crc15.l4 k x3 (wrap64 ((wrap64 (2 * x9)) + (wrap64 (rd x3 x10)))) (wrap64 (x10 + 1))) else (none)) else (some x9)
end
def spec_Crc15.f (k : Nat) (a0 : ByteArray) : Option (Int) := (spec_l1okBits.f k a0 2000).bind fun t101 => (if t101 = true then (spec_Crc15.l0 k a0 (([] : List Int)) 0) else (some (-1)))
theorem spec_Crc15.mono_l : ∀ k, (∀ y0 y1 y2, LeO (spec_Crc15.l0 k y0 y1 y2) (spec_Crc15.l0 (k + 1) y0 y1 y2)) ∧ (∀ y0 y1, LeO (spec_Crc15.l1 k y0 y1) (spec_Crc15.l1 (k + 1) y0 y1)) ∧ (∀ y0 y1 y2, LeO (spec_Crc15.l2 k y0 y1 y2) (spec_Crc15.l2 (k + 1) y0 y1 y2)) ∧ (∀ y0 y1 y2 y3, LeO (spec_Crc15.l3 k y0 y1 y2 y3) (spec_Crc15.l3 (k + 1) y0 y1 y2 y3)) ∧ (∀ y0 y1 y2, LeO (spec_Crc15.l4 k y0 y1 y2) (spec_Crc15.l4 (k + 1) y0 y1 y2))
  | 0 => ⟨fun _ _ _ r h => by simp [spec_Crc15.l0] at h, fun _ _ r h => by simp [spec_Crc15.l1] at h, fun _ _ _ r h => by simp [spec_Crc15.l2] at h, fun _ _ _ _ r h => by simp [spec_Crc15.l3] at h, fun _ _ _ r h => by simp [spec_Crc15.l4] at h⟩
  | k + 1 => by
    obtain ⟨ih0, ih1, ih2, ih3, ih4⟩ := spec_Crc15.mono_l k
    refine ⟨?_, ?_, ?_, ?_, ?_⟩
    · intro y0 y1 y2
      unfold spec_Crc15.l0
      repeat' first
      | (with_reducible exact ih0 _ _ _)
      | (with_reducible exact ih1 _ _)
      | (with_reducible exact ih2 _ _ _)
      | (with_reducible exact ih3 _ _ _ _)
      | (with_reducible exact ih4 _ _ _)
      | (with_reducible exact spec_l1okBits.mono _ _ _)
      | (with_reducible exact LeO.refl _)
      | (with_reducible exact LeO.none _)
      | (with_reducible refine LeO.ite ?_ ?_)
      | (with_reducible refine LeO.bind ?_ (fun _ => ?_))
      | exact ih0 _ _ _
      | exact ih1 _ _
      | exact ih2 _ _ _
      | exact ih3 _ _ _ _
      | exact ih4 _ _ _
      | exact spec_l1okBits.mono _ _ _
      | exact LeO.none _
      | refine LeO.ite ?_ ?_
      | refine LeO.bind ?_ (fun _ => ?_)
    · intro y0 y1
      unfold spec_Crc15.l1
      repeat' first
      | (with_reducible exact ih0 _ _ _)
      | (with_reducible exact ih1 _ _)
      | (with_reducible exact ih2 _ _ _)
      | (with_reducible exact ih3 _ _ _ _)
      | (with_reducible exact ih4 _ _ _)
      | (with_reducible exact spec_l1okBits.mono _ _ _)
      | (with_reducible exact LeO.refl _)
      | (with_reducible exact LeO.none _)
      | (with_reducible refine LeO.ite ?_ ?_)
      | (with_reducible refine LeO.bind ?_ (fun _ => ?_))
      | exact ih0 _ _ _
      | exact ih1 _ _
      | exact ih2 _ _ _
      | exact ih3 _ _ _ _
      | exact ih4 _ _ _
      | exact spec_l1okBits.mono _ _ _
      | exact LeO.none _
      | refine LeO.ite ?_ ?_
      | refine LeO.bind ?_ (fun _ => ?_)
    · intro y0 y1 y2
      unfold spec_Crc15.l2
      repeat' first
      | (with_reducible exact ih0 _ _ _)
      | (with_reducible exact ih1 _ _)
      | (with_reducible exact ih2 _ _ _)
      | (with_reducible exact ih3 _ _ _ _)
      | (with_reducible exact ih4 _ _ _)
      | (with_reducible exact spec_l1okBits.mono _ _ _)
      | (with_reducible exact LeO.refl _)
      | (with_reducible exact LeO.none _)
      | (with_reducible refine LeO.ite ?_ ?_)
      | (with_reducible refine LeO.bind ?_ (fun _ => ?_))
      | exact ih0 _ _ _
      | exact ih1 _ _
      | exact ih2 _ _ _
      | exact ih3 _ _ _ _
      | exact ih4 _ _ _
      | exact spec_l1okBits.mono _ _ _
      | exact LeO.none _
      | refine LeO.ite ?_ ?_
      | refine LeO.bind ?_ (fun _ => ?_)
    · intro y0 y1 y2 y3
      unfold spec_Crc15.l3
      repeat' first
      | (with_reducible exact ih0 _ _ _)
      | (with_reducible exact ih1 _ _)
      | (with_reducible exact ih2 _ _ _)
      | (with_reducible exact ih3 _ _ _ _)
      | (with_reducible exact ih4 _ _ _)
      | (with_reducible exact spec_l1okBits.mono _ _ _)
      | (with_reducible exact LeO.refl _)
      | (with_reducible exact LeO.none _)
      | (with_reducible refine LeO.ite ?_ ?_)
      | (with_reducible refine LeO.bind ?_ (fun _ => ?_))
      | exact ih0 _ _ _
      | exact ih1 _ _
      | exact ih2 _ _ _
      | exact ih3 _ _ _ _
      | exact ih4 _ _ _
      | exact spec_l1okBits.mono _ _ _
      | exact LeO.none _
      | refine LeO.ite ?_ ?_
      | refine LeO.bind ?_ (fun _ => ?_)
    · intro y0 y1 y2
      unfold spec_Crc15.l4
      repeat' first
      | (with_reducible exact ih0 _ _ _)
      | (with_reducible exact ih1 _ _)
      | (with_reducible exact ih2 _ _ _)
      | (with_reducible exact ih3 _ _ _ _)
      | (with_reducible exact ih4 _ _ _)
      | (with_reducible exact spec_l1okBits.mono _ _ _)
      | (with_reducible exact LeO.refl _)
      | (with_reducible exact LeO.none _)
      | (with_reducible refine LeO.ite ?_ ?_)
      | (with_reducible refine LeO.bind ?_ (fun _ => ?_))
      | exact ih0 _ _ _
      | exact ih1 _ _
      | exact ih2 _ _ _
      | exact ih3 _ _ _ _
      | exact ih4 _ _ _
      | exact spec_l1okBits.mono _ _ _
      | exact LeO.none _
      | refine LeO.ite ?_ ?_
      | refine LeO.bind ?_ (fun _ => ?_)
theorem spec_Crc15.mono : ∀ a0 k, LeO (spec_Crc15.f k a0) (spec_Crc15.f (k + 1) a0) := by
  intro a0 k
  obtain ⟨ih0, ih1, ih2, ih3, ih4⟩ := spec_Crc15.mono_l k
  unfold spec_Crc15.f
  repeat' first
      | (with_reducible exact ih0 _ _ _)
      | (with_reducible exact ih1 _ _)
      | (with_reducible exact ih2 _ _ _)
      | (with_reducible exact ih3 _ _ _ _)
      | (with_reducible exact ih4 _ _ _)
      | (with_reducible exact spec_l1okBits.mono _ _ _)
      | (with_reducible exact LeO.refl _)
      | (with_reducible exact LeO.none _)
      | (with_reducible refine LeO.ite ?_ ?_)
      | (with_reducible refine LeO.bind ?_ (fun _ => ?_))
      | exact ih0 _ _ _
      | exact ih1 _ _
      | exact ih2 _ _ _
      | exact ih3 _ _ _ _
      | exact ih4 _ _ _
      | exact spec_l1okBits.mono _ _ _
      | exact LeO.none _
      | refine LeO.ite ?_ ?_
      | refine LeO.bind ?_ (fun _ => ?_)
def spec_Crc15.T20 : Bool × List (List Nat × List Nat) := (true, [([], []), ([], []), ([], []), ([1, 2], [1, 2]), ([], []), ([], []), ([], []), ([5, 6], [5, 6]), ([4, 7], [4, 7]), ([8], [8]), ([], []), ([], []), ([10, 11], [10, 11]), ([12], [12]), ([9, 13], [9, 13]), ([0, 3, 0, 1, 2, 3, 4, 5, 6, 7, 8, 9, 10, 11, 12, 13, 14], [0, 3]), ([15, 14, 0, 1, 2, 3, 4, 5, 6, 7, 8, 9, 10, 11, 12, 13, 14], [14, 15])])
def spec_Crc15.B20 : List Nat := [0, 0, 0, 6, 0, 0, 0, 96, 240, 496, 0, 0, 3072, 7168, 16368, 32767, 65535]
theorem spec_Crc15.tab20 : rtab .any (opsOf Try.f15 20) = spec_Crc15.T20 := by kernel_rfl
theorem spec_Crc15.bits20 : waitsOk spec_Crc15.T20.2 spec_Crc15.B20 = true := by kernel_rfl
set_option maxHeartbeats 8000000 in
set_option maxRecDepth 100000 in
theorem spec_Crc15.calls (k : Nat) (a0 : ByteArray) (r : Int) (w : World) (h : spec_Crc15.f k a0 = some r) :
    Calls Try.prog 15 #[.string a0] w fun e w' => e = .returned (.int .i64 r) ∧ Below w.heap.size w w' := by
  have HB := Aside0.mk (Below.refl w.heap.size w)
  have H : ((spec_l1okBits.f k a0 2000).bind fun t101 => (if t101 = true then (spec_Crc15.l0 k a0 (([] : List Int)) 0) else (some (-1)))) = some r := h
  clear h
  replace H := Option.bind_eq_some_iff.mp H
  obtain ⟨t101, A20, H⟩ := H
  replace H : (if t101 = true then (spec_Crc15.l0 k a0 (([] : List Int)) 0) else (some (-1))) = some r := H
  have A2 := Aside0.mk A20
  clear A20
  by_cases c3 : t101 = true
  · subst c3
    have H1 : (spec_Crc15.l0 k a0 (([] : List Int)) 0) = some r := by rw [if_pos rfl] at H; exact H
    clear H
    have H := H1
    clear H1
    obtain ⟨y102, hy102⟩ : ∃ y_ : List Int, y_ = (([] : List Int)) := ⟨_, rfl⟩
    replace H : (spec_Crc15.l0 k a0 y102 0) = some r := by first | (rw [hy102]; with_reducible exact H) | (have H2_ := (Option.bind_some _ _).symm.trans H; rw [hy102]; with_reducible exact H2_) | (have H2_ := (Option.bind_some _ _).symm.trans H; with_reducible exact H2_) | with_reducible exact H | (rw [hy102]; exact H) | exact H
    have Ny102 := Aside0.mk hy102
    clear hy102
    have H' := Aside0.mk H
    clear H
    go_enter Try.func15, Try.ntmps15
    go_wp2_with (first | ((with_reducible refine gate_callee (f := 46) rfl ?_); refine goesL_ (some 12) rfl rfl Try.func46 (by kernel_rfl) rfl #[.string a0, .int .i64 2000] rfl (by (try simp only [List.map_toArray, List.map_cons, List.map_nil]); first | done | rfl | (simp only [List.length_drop, List.length_take]; rfl)) ?_; (with_reducible refine (spec_l1okBits.calls k a0 2000 true _ A2.out).mono ?_); rintro e w' ⟨rfl, ⟨nd, rfl⟩⟩; refine ⟨_, rfl, ?_⟩) | ((with_reducible refine gate_dst (N := 14) rfl ?_); refine Kd.R_lit (Kd.int .u8) _ 5 ?hg (N := 14) ?hd (xs := ([] : List Int)) (inner := []) (ok := fun _ => True) (okp := fun _ => True) ?hr ?hp (fun _ hk => hk) trivial (Below.refl _ _) (Nat.le_refl _) (by simp) ?_; (case hd => rfl); (case hg => rfl); (case hr => first | (go_simp; done) | (go_simp; rfl)); (case hp => exact (Reps.none _ _)); intro v103 w4 ho5 hb hg_ hnew_; clear hg_ hnew_; (first | rw [← Ny102.out] at ho5 | (simp only [Int.reduceToNat] at ho5; rw [← Ny102.out] at ho5)); have n0_ := Aside0.mk (Kd.R_lower ho5 (below_size (by repeat (first | (with_reducible first | exact HB.out | apply below_alloc | apply pw_below_drewN | apply below_drew1) | exact HB.out)))); have n1_ := Aside0.mk (below_step (by repeat (first | (with_reducible first | exact HB.out | apply below_alloc | apply pw_below_drewN | apply below_drew1) | exact HB.out)) hb); clear HB; have HO104 := n0_; have HB := n1_; clear n0_ n1_; clear hb ho5))
    go_loopg [3, 4] k (fun kq v3 v4 w' => ∃ (x3_1 : List Int) (x4_1 : Int), v4 = .int .i64 x4_1 ∧ Aside0 (spec_Crc15.l0 kq a0 x3_1 x4_1 = some r) ∧ Aside0 (kq ≤ k) ∧ Aside0 (Kd.R (Kd.int .u8) 5 w' w.heap.size (fun _ => True) v3 x3_1) ∧ Aside0 (Below w.heap.size w w'))
    case atStart => exact ⟨(y102), (0), (by first | rfl | (simp; done) | (simp [*]; done)), H', ⟨Nat.le_refl _⟩, ⟨by (with_reducible repeat (first | apply Kd.R_alloc | apply Kd.R_drewN | apply Kd.R_drew)); exact HO104.out⟩, ⟨by repeat (first | (with_reducible first | exact HB.out | apply below_alloc | apply pw_below_drewN | apply below_drew1) | exact HB.out)⟩⟩
    case round =>
      clear H'
      try clear c1
      try clear p2
      try clear c3
      try clear c4
      obtain ⟨x3_1, x4_1, rfl, HA, HK1, HO_3, HB⟩ := hrel
      cases gk with
      | zero => exact absurd HA.out (by simp [spec_Crc15.l0])
      | succ k1 =>
        have H := HA.out
        clear HA
        simp only [spec_Crc15.l0] at H
        by_cases c6 : x4_1 < (a0.size : Int)
        · rw [if_pos c6] at H
          have c6b0 : decide (x4_1 < (a0.size : Int)) = true := decide_eq_true c6
          clear c6
          by_cases c7 : 0 ≤ x4_1
          · rw [if_pos c7] at H
            have c7b0 : decide (0 ≤ x4_1) = true := decide_eq_true c7
            clear c7
            by_cases c9 : x3_1.length < 140737488355328
            · rw [if_pos c9] at H
              have LMc9 := Aside0.mk c9
              clear c9
              obtain ⟨y105, hy105⟩ : ∃ y_ : List Int, y_ = (x3_1 ++ [((bt a0 x4_1) - 48) % 256]) := ⟨_, rfl⟩
              replace H : (spec_Crc15.l0 k1 a0 y105 (wrap64 (x4_1 + 1))) = some r := by first | (rw [hy105]; with_reducible exact H) | (have H2_ := (Option.bind_some _ _).symm.trans H; rw [hy105]; with_reducible exact H2_) | (have H2_ := (Option.bind_some _ _).symm.trans H; with_reducible exact H2_) | with_reducible exact H | (rw [hy105]; exact H) | exact H
              have Ny105 := Aside0.mk hy105
              clear hy105
              have H' := Aside0.mk H
              clear H
              have p8 : 0 ≤ (x4_1 : Int) := of_decide_eq_true (by first | (with_reducible assumption) | assumption)
              have q8 : x4_1 < (a0.size : Int) := of_decide_eq_true (by first | (with_reducible assumption) | assumption)
              have hx8 := bt_at a0 x4_1
              replace p8 := eq_true p8
              replace q8 := eq_true q8
              go_wp2_with (first | ((with_reducible refine gate_builtin (b := .append) (xs := #[.tmp 21, .tmp 26]) rfl ?_); at_builtin; refine Kd.R_append (Kd.int .u8) (w0 := w) w.heap.size rfl (.tmp 21) (.tmp 26) 38 5 (.int .u8 0) 1 rfl Try.underlying38 info5 rfl (by decide) (by omega) u3 x3_1 (((bt a0 x4_1) - 48) % 256) [.int .u8 (((bt a0 x4_1) - 48) % 256)] (fun _ => True) (fun _ => False) rfl rfl ?aP (fun _ hk => hk.elim) ?aF ?aO ?aB ?aS ?aL ?_; (case aP => exact rfl); (case aB => exact (by repeat (first | (with_reducible first | exact HB.out | apply below_alloc | apply pw_below_drewN | apply below_drew1) | exact HB.out))); (case aF => exact (fun _ _ => trivial)); (case aO => exact (by (with_reducible repeat (first | apply Kd.R_alloc | apply Kd.R_drewN | apply Kd.R_drew)); exact HO_3.out)); (case aS => exact (below_size (by repeat (first | (with_reducible first | exact HB.out | apply below_alloc | apply pw_below_drewN | apply below_drew1) | exact HB.out)))); (case aL => have := LMc9.out; omega); intro v106 w10 ho hb hg hat; rw [← Ny105.out] at ho; have n0_ := Aside0.mk (hb); have n1_ := Aside0.mk (ho); clear HB; clear HO_3; have HB := n0_; have HO107 := n1_; clear n0_ n1_; clear ho hb hg hat))
              go_roundg k1
              case measure => have := HK1.out; omega
              case rel => exact ⟨(y105), (wrap64 (x4_1 + 1)), (by first | rfl | (simp; done) | (simp [*]; done)), H', ⟨by have := HK1.out; omega⟩, ⟨by (with_reducible repeat (first | apply Kd.R_alloc | apply Kd.R_drewN | apply Kd.R_drew)); exact HO107.out⟩, ⟨by repeat (first | (with_reducible first | exact HB.out | apply below_alloc | apply pw_below_drewN | apply below_drew1) | exact HB.out)⟩⟩
            · rw [if_neg c9] at H
              exact absurd H (by simp)
          · rw [if_neg c7] at H
            exact absurd H (by simp)
        · rw [if_neg c6] at H
          have c6b0 : decide (x4_1 < (a0.size : Int)) = false := decide_eq_false c6
          clear c6
          have H' := Aside0.mk H
          clear H
          go_wp2
          go_loopg [3, 5] k1 (fun kq v3 v5 w' => ∃ (x3_2 : List Int) (x5_2 : Int), v5 = .int .i64 x5_2 ∧ Aside0 (spec_Crc15.l1 kq x3_2 x5_2 = some r) ∧ Aside0 (kq ≤ k1) ∧ Aside0 (Kd.R (Kd.int .u8) 5 w' w.heap.size (fun _ => True) v3 x3_2) ∧ Aside0 (Below w.heap.size w w'))
          case atStart => exact ⟨(x3_1), (0), (by first | rfl | (simp; done) | (simp [*]; done)), H', ⟨Nat.le_refl _⟩, ⟨by (with_reducible repeat (first | apply Kd.R_alloc | apply Kd.R_drewN | apply Kd.R_drew)); exact HO_3.out⟩, ⟨by repeat (first | (with_reducible first | exact HB.out | apply below_alloc | apply pw_below_drewN | apply below_drew1) | exact HB.out)⟩⟩
          case round =>
            clear H'
            try clear c1
            try clear p2
            try clear c3
            try clear c4
            try clear c6
            try clear c6b0
            try clear p6
            try clear c7
            try clear c7b0
            try clear p8
            try clear q8
            try clear hx8
            try clear c9
            try clear p2
            try clear p8
            try clear q8
            obtain ⟨x3_2, x5_2, rfl, HA, HK2, HO_3, HB⟩ := hrel
            cases gk with
            | zero => exact absurd HA.out (by simp [spec_Crc15.l1])
            | succ k2 =>
              have H := HA.out
              clear HA
              simp only [spec_Crc15.l1] at H
              by_cases c11 : x5_2 < 15
              · rw [if_pos c11] at H
                have c11b0 : decide (x5_2 < 15) = true := decide_eq_true c11
                clear c11
                by_cases c12 : x3_2.length < 140737488355328
                · rw [if_pos c12] at H
                  have LMc12 := Aside0.mk c12
                  clear c12
                  obtain ⟨y108, hy108⟩ : ∃ y_ : List Int, y_ = (x3_2 ++ [0]) := ⟨_, rfl⟩
                  replace H : (spec_Crc15.l1 k2 y108 (wrap64 (x5_2 + 1))) = some r := by first | (rw [hy108]; with_reducible exact H) | (have H2_ := (Option.bind_some _ _).symm.trans H; rw [hy108]; with_reducible exact H2_) | (have H2_ := (Option.bind_some _ _).symm.trans H; with_reducible exact H2_) | with_reducible exact H | (rw [hy108]; exact H) | exact H
                  have Ny108 := Aside0.mk hy108
                  clear hy108
                  have H' := Aside0.mk H
                  clear H
                  go_wp2_with (first | ((with_reducible refine gate_builtin (b := .append) (xs := #[.tmp 32, .tmp 33]) rfl ?_); at_builtin; refine Kd.R_append (Kd.int .u8) (w0 := w) w.heap.size rfl (.tmp 32) (.tmp 33) 38 5 (.int .u8 0) 1 rfl Try.underlying38 info5 rfl (by decide) (by omega) u3 x3_2 0 [.int .u8 0] (fun _ => True) (fun _ => False) rfl rfl ?aP (fun _ hk => hk.elim) ?aF ?aO ?aB ?aS ?aL ?_; (case aP => exact rfl); (case aB => exact (by repeat (first | (with_reducible first | exact HB.out | apply below_alloc | apply pw_below_drewN | apply below_drew1) | exact HB.out))); (case aF => exact (fun _ _ => trivial)); (case aO => exact (by (with_reducible repeat (first | apply Kd.R_alloc | apply Kd.R_drewN | apply Kd.R_drew)); exact HO_3.out)); (case aS => exact (below_size (by repeat (first | (with_reducible first | exact HB.out | apply below_alloc | apply pw_below_drewN | apply below_drew1) | exact HB.out)))); (case aL => have := LMc12.out; omega); intro v109 w13 ho hb hg hat; rw [← Ny108.out] at ho; have n0_ := Aside0.mk (hb); have n1_ := Aside0.mk (ho); clear HB; clear HO_3; have HB := n0_; have HO110 := n1_; clear n0_ n1_; clear ho hb hg hat))
                  go_roundg k2
                  case measure => have := HK1.out; have := HK2.out; omega
                  case rel => exact ⟨(y108), (wrap64 (x5_2 + 1)), (by first | rfl | (simp; done) | (simp [*]; done)), H', ⟨by have := HK1.out; have := HK2.out; omega⟩, ⟨by (with_reducible repeat (first | apply Kd.R_alloc | apply Kd.R_drewN | apply Kd.R_drew)); exact HO110.out⟩, ⟨by repeat (first | (with_reducible first | exact HB.out | apply below_alloc | apply pw_below_drewN | apply below_drew1) | exact HB.out)⟩⟩
                · rw [if_neg c12] at H
                  exact absurd H (by simp)
              · rw [if_neg c11] at H
                have c11b0 : decide (x5_2 < 15) = false := decide_eq_false c11
                clear c11
                have H' := Aside0.mk H
                clear H
                go_wp2
                go_loopg [7] k2 (fun kq v7 w' => ∃ (x3_3 : List Int) (x7_3 : Int), v7 = .int .i64 x7_3 ∧ Aside0 (spec_Crc15.l2 kq x3_3 (⟨#[49, 49, 48, 48, 48, 49, 48, 49, 49, 48, 48, 49, 49, 48, 48, 49]⟩ : ByteArray) x7_3 = some r) ∧ Aside0 (kq ≤ k2) ∧ Aside0 (Kd.R (Kd.int .u8) 5 w' w.heap.size (fun _ => True) u3 x3_3) ∧ Aside0 (Below w.heap.size w w'))
                case atStart => exact ⟨(x3_2), (0), (by first | rfl | (simp; done) | (simp [*]; done)), H', ⟨Nat.le_refl _⟩, ⟨by (with_reducible repeat (first | apply Kd.R_alloc | apply Kd.R_drewN | apply Kd.R_drew)); exact HO_3.out⟩, ⟨by repeat (first | (with_reducible first | exact HB.out | apply below_alloc | apply pw_below_drewN | apply below_drew1) | exact HB.out)⟩⟩
                case round =>
                  clear H'
                  try clear c1
                  try clear p2
                  try clear c3
                  try clear c4
                  try clear c6
                  try clear c6b0
                  try clear p6
                  try clear c7
                  try clear c7b0
                  try clear p8
                  try clear q8
                  try clear hx8
                  try clear c9
                  try clear c11
                  try clear c11b0
                  try clear c12
                  try clear p2
                  try clear p6
                  try clear p8
                  try clear q8
                  obtain ⟨x3_3, x7_3, rfl, HA, HK3, HO_3, HB⟩ := hrel
                  cases gk with
                  | zero => exact absurd HA.out (by simp [spec_Crc15.l2])
                  | succ k3 =>
                    have H := HA.out
                    clear HA
                    simp only [spec_Crc15.l2] at H
                    by_cases c14 : (wrap64 (x7_3 + 15)) < (x3_3.length : Int)
                    · rw [if_pos c14] at H
                      have c14b0 : decide ((wrap64 (x7_3 + 15)) < (x3_3.length : Int)) = true := decide_eq_true c14
                      clear c14
                      by_cases c15 : 0 ≤ x7_3
                      · rw [if_pos c15] at H
                        have c15b0 : decide (0 ≤ x7_3) = true := decide_eq_true c15
                        clear c15
                        by_cases c16 : x7_3 < (x3_3.length : Int)
                        · rw [if_pos c16] at H
                          have c16b0 : decide (x7_3 < (x3_3.length : Int)) = true := decide_eq_true c16
                          clear c16
                          by_cases c17 : (rd x3_3 x7_3) = 1
                          · rw [if_pos c17] at H
                            have c17b0 : ((rd x3_3 x7_3) == 1) = true := beq_iff_eq.mpr c17
                            have c17b1 : ((rd x3_3 x7_3) != 1) = false := bne_eq_false_iff_eq.mpr c17
                            clear c17
                            have H' := Aside0.mk H
                            clear H
                            obtain ⟨Ao18, co18, eo18⟩ := Kd.R_slice HO_3.out
                            subst eo18
                            have p111 : 0 ≤ (x7_3 : Int) := of_decide_eq_true (by first | (with_reducible assumption) | assumption)
                            have q111 : x7_3 < (x3_3.length : Int) := of_decide_eq_true (by first | (with_reducible assumption) | assumption)
                            obtain ⟨ad111, e111, hx111_0⟩ := Kd.at_int (Kd.R_reads' HO_3.out).2.2 x7_3 p111 q111
                            cases e111
                            replace p111 := eq_true p111
                            replace q111 := eq_true q111
                            go_wp2
                            go_loopg [8] k3 (fun kq v8 w' => ∃ (x3_4 : List Int) (x8_4 : Int), v8 = .int .i64 x8_4 ∧ Aside0 (spec_Crc15.l3 kq x3_4 (⟨#[49, 49, 48, 48, 48, 49, 48, 49, 49, 48, 48, 49, 49, 48, 48, 49]⟩ : ByteArray) x7_3 x8_4 = some r) ∧ Aside0 (kq ≤ k3) ∧ Aside0 (Kd.R (Kd.int .u8) 5 w' w.heap.size (fun _ => True) (.slice (some ad111) x3_3.length co18) x3_4) ∧ Aside0 (Below w.heap.size w w'))
                            case atStart => exact ⟨(x3_3), (0), (by first | rfl | (simp; done) | (simp [*]; done)), H', ⟨Nat.le_refl _⟩, ⟨by (with_reducible repeat (first | apply Kd.R_alloc | apply Kd.R_drewN | apply Kd.R_drew)); exact HO_3.out⟩, ⟨by repeat (first | (with_reducible first | exact HB.out | apply below_alloc | apply pw_below_drewN | apply below_drew1) | exact HB.out)⟩⟩
                            case round =>
                              clear H'
                              try clear c1
                              try clear p1
                              try clear q1
                              try clear hx1
                              try clear p2
                              try clear c3
                              try clear c4
                              try clear c6
                              try clear c6b0
                              try clear p6
                              try clear c7
                              try clear c7b0
                              try clear p8
                              try clear q8
                              try clear hx8
                              try clear c9
                              try clear c11
                              try clear c11b0
                              try clear p11
                              try clear q11
                              try clear hx11
                              try clear c12
                              try clear c14
                              try clear c14b0
                              try clear c15
                              try clear c15b0
                              try clear c16
                              try clear c16b0
                              try clear c17
                              try clear c17b0
                              try clear c17b1
                              try clear hx111_0
                              try clear p111
                              try clear p2
                              try clear p6
                              try clear p8
                              try clear q111
                              try clear q8
                              obtain ⟨x3_4, x8_4, rfl, HA, HK4, HO_3, HB⟩ := hrel
                              have hl3_4 := (Kd.R_reads' HO_3.out).1
                              rw [hl3_4] at HO_3
                              (try simp only [hl3_4])
                              cases gk with
                              | zero => exact absurd HA.out (by simp [spec_Crc15.l3])
                              | succ k4 =>
                                have H := HA.out
                                clear HA
                                simp only [spec_Crc15.l3] at H
                                by_cases c19 : x8_4 < 16
                                · rw [if_pos c19] at H
                                  have c19b0 : decide (x8_4 < 16) = true := decide_eq_true c19
                                  clear c19
                                  obtain ⟨ji20, hji20⟩ : ∃ j_ : Int, (wrap64 (x7_3 + x8_4)) = j_ := ⟨_, rfl⟩
                                  replace H : (if 0 ≤ (ji20) then (if (ji20) < (x3_4.length : Int) then (if 0 ≤ x8_4 then (if x8_4 < ((⟨#[49, 49, 48, 48, 48, 49, 48, 49, 49, 48, 48, 49, 49, 48, 48, 49]⟩ : ByteArray).size : Int) then (spec_Crc15.l3 k4 (x3_4.set ((ji20) : Int).toNat (Go.bits .xor .u8 (rd x3_4 (ji20)) (((bt (⟨#[49, 49, 48, 48, 48, 49, 48, 49, 49, 48, 48, 49, 49, 48, 48, 49]⟩ : ByteArray) x8_4) - 48) % 256))) (⟨#[49, 49, 48, 48, 48, 49, 48, 49, 49, 48, 48, 49, 49, 48, 48, 49]⟩ : ByteArray) x7_3 (wrap64 (x8_4 + 1))) else (none)) else (none)) else (none)) else (none)) = some r := by first | (rw [hji20] at H; exact H) | (simp only [hji20] at H ⊢; exact H)
                                  have hji20w : (IntKind.i64.wrap (x7_3 + x8_4)) = ji20 := (i64_w _).trans hji20
                                  by_cases c21 : 0 ≤ (ji20)
                                  · rw [if_pos c21] at H
                                    have c21b0 : decide (0 ≤ (ji20)) = true := decide_eq_true c21
                                    clear c21
                                    by_cases c22 : (ji20) < (x3_4.length : Int)
                                    · rw [if_pos c22] at H
                                      have c22b0 : decide ((ji20) < (x3_4.length : Int)) = true := decide_eq_true c22
                                      clear c22
                                      by_cases c23 : 0 ≤ x8_4
                                      · rw [if_pos c23] at H
                                        have c23b0 : decide (0 ≤ x8_4) = true := decide_eq_true c23
                                        clear c23
                                        by_cases c24 : x8_4 < ((⟨#[49, 49, 48, 48, 48, 49, 48, 49, 49, 48, 48, 49, 49, 48, 48, 49]⟩ : ByteArray).size : Int)
                                        · rw [if_pos c24] at H
                                          have c24b0 : decide (x8_4 < ((⟨#[49, 49, 48, 48, 48, 49, 48, 49, 49, 48, 48, 49, 49, 48, 48, 49]⟩ : ByteArray).size : Int)) = true := decide_eq_true c24
                                          clear c24
                                          obtain ⟨y113, hy113⟩ : ∃ y_ : List Int, y_ = (x3_4.set ((ji20) : Int).toNat (Go.bits .xor .u8 (rd x3_4 (ji20)) (((bt (⟨#[49, 49, 48, 48, 48, 49, 48, 49, 49, 48, 48, 49, 49, 48, 48, 49]⟩ : ByteArray) x8_4) - 48) % 256))) := ⟨_, rfl⟩
                                          replace H : (spec_Crc15.l3 k4 y113 (⟨#[49, 49, 48, 48, 48, 49, 48, 49, 49, 48, 48, 49, 49, 48, 48, 49]⟩ : ByteArray) x7_3 (wrap64 (x8_4 + 1))) = some r := by first | (rw [hy113]; with_reducible exact H) | (have H2_ := (Option.bind_some _ _).symm.trans H; rw [hy113]; with_reducible exact H2_) | (have H2_ := (Option.bind_some _ _).symm.trans H; with_reducible exact H2_) | with_reducible exact H | (rw [hy113]; exact H) | exact H
                                          have Ny113 := Aside0.mk hy113
                                          clear hy113
                                          have H' := Aside0.mk H
                                          clear H
                                          try go_wp2
                                          have n0_ := Aside0.mk (Kd.R_drew HO_3.out)
                                          have n1_ := Aside0.mk (below_drew1 HB.out)
                                          clear HO_3
                                          clear HB
                                          have HO_3 := n0_
                                          have HB := n1_
                                          clear n0_ n1_
                                          have p112 : 0 ≤ ((ji20) : Int) := of_decide_eq_true (by first | (with_reducible assumption) | assumption)
                                          have q112 : (ji20) < (x3_4.length : Int) := of_decide_eq_true (by first | (with_reducible assumption) | assumption)
                                          obtain ⟨ad112, e112, hx112_0⟩ := Kd.at_int (Kd.R_reads' HO_3.out).2.2 (ji20) p112 q112
                                          obtain rfl : ad111 = ad112 := (by injection e112)
                                          replace p112 := eq_true p112
                                          replace q112 := eq_true q112
                                          have p25 : 0 ≤ (x8_4 : Int) := of_decide_eq_true (by first | (with_reducible assumption) | assumption)
                                          have q25 : x8_4 < (16 : Int) := of_decide_eq_true (by first | (with_reducible assumption) | assumption)
                                          have hx25 := bt_at (⟨#[49, 49, 48, 48, 48, 49, 48, 49, 49, 48, 48, 49, 49, 48, 48, 49]⟩ : ByteArray) x8_4
                                          replace p25 := eq_true p25
                                          replace q25 := eq_true q25
                                          have p26 : 0 ≤ ((ji20) : Int) := of_decide_eq_true (by first | (with_reducible assumption) | assumption)
                                          have q26 : ((ji20) : Int) < ((x3_4.length : Int) : Int) := of_decide_eq_true (by first | (with_reducible assumption) | assumption)
                                          obtain ⟨go26, co26, eo26, gb26, gl26, cl26, HG26⟩ := Kd.R_form HO_3.out (by omega)
                                          (first | cases eo26 | (injection eo26 with ea_ en_ ec_; (first | subst ea_ | (injection ea_ with ea_; subst ea_)); subst ec_; clear en_))
                                          have GB26 := Aside0.mk gb26
                                          have GG26 := Aside0.mk HG26
                                          clear gb26 gl26 HG26
                                          (first | simp only [add_plain] at hx111_0 | skip)
                                          (first | simp only [add_plain] at hx112_0 | skip)
                                          obtain ⟨hx26_0, hf26_0⟩ := Kd.R_celln 0 HO_3.out ((ji20) : Int) p26 q26
                                          replace p26 := eq_true p26
                                          replace q26 := eq_true q26
                                          have HP28 := Kd.R_putn HO_3.out ((ji20) : Int) (Go.bits .xor .u8 (rd x3_4 (ji20)) (((bt (⟨#[49, 49, 48, 48, 48, 49, 48, 49, 49, 48, 48, 49, 49, 48, 48, 49]⟩ : ByteArray) x8_4) - 48) % 256))
                                          rw [← Ny113.out] at HP28
                                          have HQ28 := Aside0.mk HP28
                                          clear HP28
                                          refine start_ (n := 17) (S := fun w' => w'.cell? ⟨go26, ((ji20)).toNat, none⟩ = some (.int .u8 (rd x3_4 (ji20)))) (ds := [16]) #[false, false, false, false, false, false, false, false, false, false, false, false, false, false, false, false, false] (by kernel_rfl) rfl rfl (hx112_0) (fun hHeld => ?_); refine with_tabW spec_Crc15.tab20 spec_Crc15.bits20 (fun HT_ HW_ => ?_)
                                          generalize wr.drew = w27 at HO_3 HB GG26 HQ28 hf26_0 hx112_0 hx26_0 hHeld ⊢
                                          refine pure_ (i := 0) (N := some 51) (v := ?_) (a' := ?_) #[true, false, false, false, false, false, false, false, false, false, false, false, false, false, false, false, false] rfl rfl (any_of HT_.out (by kernel_rfl)) (fun _ _ _ h => h) (Or.inl ⟨by rfl, ?_⟩) ?_ ?_
                                          rotate_left
                                          · intro w'
                                            go_simp
                                            with_reducible rfl
                                          rotate_left
                                          · simp only [Act.put, List.setIfInBounds_toArray, List.set_cons_zero, List.set_cons_succ, i64_w, i32_w]
                                            rfl
                                          refine pure_ (i := 1) (N := some 52) (v := ?_) (a' := ?_) #[true, true, false, false, false, false, false, false, false, false, false, false, false, false, false, false, false] rfl rfl (any_of HT_.out (by kernel_rfl)) (fun _ _ _ h => h) (Or.inl ⟨by rfl, ?_⟩) ?_ ?_
                                          rotate_left
                                          · intro w'
                                            go_simp
                                            with_reducible rfl
                                          rotate_left
                                          · simp only [Act.put, List.setIfInBounds_toArray, List.set_cons_zero, List.set_cons_succ, i64_w, i32_w]
                                            rfl
                                          refine pure_ (i := 2) (N := some 53) (v := ?_) (a' := ?_) #[true, true, true, false, false, false, false, false, false, false, false, false, false, false, false, false, false] rfl rfl (any_of HT_.out (by kernel_rfl)) (fun _ _ _ h => h) (Or.inl ⟨by rfl, ?_⟩) ?_ ?_
                                          rotate_left
                                          · intro w'
                                            go_simp
                                            with_reducible rfl
                                          rotate_left
                                          · simp only [Act.put, List.setIfInBounds_toArray, List.set_cons_zero, List.set_cons_succ, i64_w, i32_w]
                                            rfl
                                          refine pure_ (i := 3) (N := some 54) (v := ?_) (a' := ?_) #[true, true, true, true, false, false, false, false, false, false, false, false, false, false, false, false, false] rfl rfl (any_of HT_.out (by kernel_rfl)) (fun _ _ _ h => h) (Or.inl ⟨by rfl, ?_⟩) ?_ ?_
                                          rotate_left
                                          · intro w'
                                            go_simp
                                            with_reducible rfl
                                          rotate_left
                                          · simp only [Act.put, List.setIfInBounds_toArray, List.set_cons_zero, List.set_cons_succ, i64_w, i32_w]
                                            rfl
                                          refine pure_ (i := 4) (N := some 55) (v := ?_) (a' := ?_) #[true, true, true, true, true, false, false, false, false, false, false, false, false, false, false, false, false] rfl rfl (any_of HT_.out (by kernel_rfl)) (fun _ _ _ h => h) (Or.inl ⟨by rfl, ?_⟩) ?_ ?_
                                          rotate_left
                                          · intro w'
                                            go_simp
                                            with_reducible rfl
                                          rotate_left
                                          · simp only [Act.put, List.setIfInBounds_toArray, List.set_cons_zero, List.set_cons_succ, i64_w, i32_w]
                                            rfl
                                          refine pure_ (i := 5) (N := some 56) (v := ?_) (a' := ?_) #[true, true, true, true, true, true, false, false, false, false, false, false, false, false, false, false, false] rfl rfl (any_of HT_.out (by kernel_rfl)) (fun _ _ _ h => h) (Or.inl ⟨by rfl, ?_⟩) ?_ ?_
                                          rotate_left
                                          · intro w'
                                            go_simp
                                            with_reducible rfl
                                          rotate_left
                                          · simp only [Act.put, List.setIfInBounds_toArray, List.set_cons_zero, List.set_cons_succ, i64_w, i32_w]
                                            rfl
                                          refine pure_ (i := 6) (N := some 57) (v := ?_) (a' := ?_) #[true, true, true, true, true, true, true, false, false, false, false, false, false, false, false, false, false] rfl rfl (any_of HT_.out (by kernel_rfl)) (fun _ _ _ h => h) (Or.inl ⟨by rfl, ?_⟩) ?_ ?_
                                          rotate_left
                                          · intro w'
                                            go_simp
                                            with_reducible rfl
                                          rotate_left
                                          · simp only [Act.put, List.setIfInBounds_toArray, List.set_cons_zero, List.set_cons_succ, i64_w, i32_w]
                                            rfl
                                          refine pure_ (i := 7) (N := some 58) (v := ?_) (a' := ?_) #[true, true, true, true, true, true, true, true, false, false, false, false, false, false, false, false, false] rfl rfl (any_of HT_.out (by kernel_rfl)) (fun _ _ _ h => h) (Or.inl ⟨by rfl, ?_⟩) ?_ ?_
                                          rotate_left
                                          · intro w'
                                            go_simp
                                            with_reducible rfl
                                          rotate_left
                                          · simp only [Act.put, List.setIfInBounds_toArray, List.set_cons_zero, List.set_cons_succ, i64_w, i32_w]
                                            rfl
                                          refine pure_ (i := 8) (N := some 59) (v := ?_) (a' := ?_) #[true, true, true, true, true, true, true, true, true, false, false, false, false, false, false, false, false] rfl rfl (any_of HT_.out (by kernel_rfl)) (fun _ _ _ h => h) (Or.inl ⟨by rfl, ?_⟩) ?_ ?_
                                          rotate_left
                                          · intro w'
                                            go_simp
                                            with_reducible rfl
                                          rotate_left
                                          · simp only [Act.put, List.setIfInBounds_toArray, List.set_cons_zero, List.set_cons_succ, i64_w, i32_w]
                                            rfl
                                          refine pure_ (i := 10) (N := some 61) (v := ?_) (a' := ?_) #[true, true, true, true, true, true, true, true, true, false, true, false, false, false, false, false, false] rfl rfl (any_of HT_.out (by kernel_rfl)) (fun _ _ _ h => h) (Or.inl ⟨by rfl, ?_⟩) ?_ ?_
                                          rotate_left
                                          · intro w'
                                            go_simp
                                            with_reducible rfl
                                          rotate_left
                                          · simp only [Act.put, List.setIfInBounds_toArray, List.set_cons_zero, List.set_cons_succ, i64_w, i32_w]
                                            rfl
                                          refine pure_ (i := 11) (N := some 62) (v := ?_) (a' := ?_) #[true, true, true, true, true, true, true, true, true, false, true, true, false, false, false, false, false] rfl rfl (any_of HT_.out (by kernel_rfl)) (fun _ _ _ h => h) (Or.inl ⟨by rfl, ?_⟩) ?_ ?_
                                          rotate_left
                                          · intro w'
                                            go_simp
                                            with_reducible rfl
                                          rotate_left
                                          · simp only [Act.put, List.setIfInBounds_toArray, List.set_cons_zero, List.set_cons_succ, i64_w, i32_w]
                                            rfl
                                          refine take_ (i := 9) (N := some 60) (v := ?_) (a' := ?_) #[true, true, true, true, true, true, true, true, true, true, true, true, false, false, false, false, false] rfl rfl (take_ofW HT_.out HW_.out (by kernel_rfl)) (fun _ _ _ h => h) (Or.inl ⟨by rfl, ?_⟩) hHeld ?_ ?_
                                          rotate_left
                                          · intro w' s0
                                            go_simp
                                            with_reducible rfl
                                          rotate_left
                                          · simp only [Act.put, List.setIfInBounds_toArray, List.set_cons_zero, List.set_cons_succ, i64_w, i32_w]
                                            rfl
                                          refine take_ (i := 12) (N := some 63) (v := ?_) (a' := ?_) #[true, true, true, true, true, true, true, true, true, true, true, true, true, false, false, false, false] rfl rfl (take_ofW HT_.out HW_.out (by kernel_rfl)) (fun _ _ _ h => h) (Or.inl ⟨by rfl, ?_⟩) hHeld ?_ ?_
                                          rotate_left
                                          · intro w' s0
                                            go_simp
                                            with_reducible rfl
                                          rotate_left
                                          · simp only [Act.put, List.setIfInBounds_toArray, List.set_cons_zero, List.set_cons_succ, i64_w, i32_w]
                                            rfl
                                          refine pure_ (i := 13) (N := some 64) (v := ?_) (a' := ?_) #[true, true, true, true, true, true, true, true, true, true, true, true, true, true, false, false, false] rfl rfl (any_of HT_.out (by kernel_rfl)) (fun _ _ _ h => h) (Or.inl ⟨by rfl, ?_⟩) ?_ ?_
                                          rotate_left
                                          · intro w'
                                            go_simp
                                            with_reducible rfl
                                          rotate_left
                                          · simp only [Act.put, List.setIfInBounds_toArray, List.set_cons_zero, List.set_cons_succ, i64_w, i32_w]
                                            rfl
                                          refine pure_ (i := 14) (N := some 65) (v := ?_) (a' := ?_) #[true, true, true, true, true, true, true, true, true, true, true, true, true, true, true, false, false] rfl rfl (any_of HT_.out (by kernel_rfl)) (fun _ _ _ h => h) (Or.inl ⟨by rfl, ?_⟩) ?_ ?_
                                          rotate_left
                                          · intro w'
                                            go_simp
                                            with_reducible rfl
                                          rotate_left
                                          · simp only [Act.put, List.setIfInBounds_toArray, List.set_cons_zero, List.set_cons_succ, i64_w, i32_w]
                                            rfl
                                          refine pure_ (i := 15) (N := some 66) (v := ?_) (a' := ?_) #[true, true, true, true, true, true, true, true, true, true, true, true, true, true, true, true, false] rfl rfl (any_of HT_.out (by kernel_rfl)) (fun _ _ _ h => h) (Or.inl ⟨by rfl, ?_⟩) ?_ ?_
                                          rotate_left
                                          · intro w'
                                            go_simp
                                            with_reducible rfl
                                          rotate_left
                                          · simp only [Act.put, List.setIfInBounds_toArray, List.set_cons_zero, List.set_cons_succ, i64_w, i32_w]
                                            rfl
                                          refine last_ (i := 16) (N := none) #[true, true, true, true, true, true, true, true, true, true, true, true, true, true, true, true, true] rfl rfl (one_of HT_.out (by kernel_rfl)) (by decide) (fun K hK => ?_)
                                          refine skip_ (w1 := ?_) (by rfl) rfl ?_ ?_
                                          rotate_left
                                          · go_simp
                                            rfl
                                          refine hK.out _ _ ?_
                                          clear hK K
                                          refine done_ (done_of HT_.out (by kernel_rfl)) ?_
                                          try go_wp2
                                          (try simp only [← hl3_4]); (try simp only [← add_plain go26 x7_3.toNat])
                                          go_roundg k4
                                          case measure => have := HK1.out; have := HK2.out; have := HK3.out; have := HK4.out; omega
                                          case rel => exact ⟨(y113), (wrap64 (x8_4 + 1)), (by first | rfl | (simp; done) | (simp [*]; done)), H', ⟨by have := HK1.out; have := HK2.out; have := HK3.out; have := HK4.out; omega⟩, ⟨by (try simp only [hl3_4]); (with_reducible repeat (first | apply Kd.R_alloc | apply Kd.R_drewN | apply Kd.R_drew)); exact HQ28.out⟩, ⟨by repeat (first | (with_reducible first | exact HB.out | apply below_alloc | apply pw_below_drewN | apply below_drew1 | refine below_set ?_ GB26.out) | exact HB.out)⟩⟩
                                        · rw [if_neg c24] at H
                                          exact absurd H (by simp)
                                      · rw [if_neg c23] at H
                                        exact absurd H (by simp)
                                    · rw [if_neg c22] at H
                                      exact absurd H (by simp)
                                  · rw [if_neg c21] at H
                                    exact absurd H (by simp)
                                · rw [if_neg c19] at H
                                  have c19b0 : decide (x8_4 < 16) = false := decide_eq_false c19
                                  clear c19
                                  have H' := Aside0.mk H
                                  clear H
                                  go_wp2
                                  (try simp only [← hl3_4]); (try simp only [← add_plain go26 x7_3.toNat])
                                  go_roundg k4
                                  case measure => have := HK1.out; have := HK2.out; have := HK3.out; have := HK4.out; omega
                                  case rel => exact ⟨(x3_4), (wrap64 (x7_3 + 1)), (by first | rfl | (simp; done) | (simp [*]; done)), H', ⟨by have := HK1.out; have := HK2.out; have := HK3.out; have := HK4.out; omega⟩, ⟨by (try simp only [hl3_4]); (with_reducible repeat (first | apply Kd.R_alloc | apply Kd.R_drewN | apply Kd.R_drew)); exact HO_3.out⟩, ⟨by repeat (first | (with_reducible first | exact HB.out | apply below_alloc | apply pw_below_drewN | apply below_drew1) | exact HB.out)⟩⟩
                          · rw [if_neg c17] at H
                            have c17b0 : ((rd x3_3 x7_3) == 1) = false := beq_eq_false_iff_ne.mpr c17
                            have c17b1 : ((rd x3_3 x7_3) != 1) = true := bne_iff_ne.mpr c17
                            have H' := Aside0.mk H
                            clear H
                            obtain ⟨Ao29, co29, eo29⟩ := Kd.R_slice HO_3.out
                            subst eo29
                            have p111 : 0 ≤ (x7_3 : Int) := of_decide_eq_true (by first | (with_reducible assumption) | assumption)
                            have q111 : x7_3 < (x3_3.length : Int) := of_decide_eq_true (by first | (with_reducible assumption) | assumption)
                            obtain ⟨ad111, e111, hx111_0⟩ := Kd.at_int (Kd.R_reads' HO_3.out).2.2 x7_3 p111 q111
                            cases e111
                            replace p111 := eq_true p111
                            replace q111 := eq_true q111
                            go_wp2
                            go_roundg k3
                            case measure => have := HK1.out; have := HK2.out; have := HK3.out; omega
                            case rel => exact ⟨(x3_3), (wrap64 (x7_3 + 1)), (by first | rfl | (simp; done) | (simp [*]; done)), H', ⟨by have := HK1.out; have := HK2.out; have := HK3.out; omega⟩, ⟨by (with_reducible repeat (first | apply Kd.R_alloc | apply Kd.R_drewN | apply Kd.R_drew)); exact HO_3.out⟩, ⟨by repeat (first | (with_reducible first | exact HB.out | apply below_alloc | apply pw_below_drewN | apply below_drew1) | exact HB.out)⟩⟩
                        · rw [if_neg c16] at H
                          exact absurd H (by simp)
                      · rw [if_neg c15] at H
                        exact absurd H (by simp)
                    · rw [if_neg c14] at H
                      have c14b0 : decide ((wrap64 (x7_3 + 15)) < (x3_3.length : Int)) = false := decide_eq_false c14
                      clear c14
                      have H' := Aside0.mk H
                      clear H
                      obtain ⟨Ao30, co30, eo30⟩ := Kd.R_slice HO_3.out
                      subst eo30
                      go_wp2
                      go_loopg [9, 10] k3 (fun kq v9 v10 w' => ∃ (x9_4 : Int) (x10_4 : Int), v9 = .int .i64 x9_4 ∧ v10 = .int .i64 x10_4 ∧ Aside0 (spec_Crc15.l4 kq x3_3 x9_4 x10_4 = some r) ∧ Aside0 (kq ≤ k3) ∧ Aside0 (Kd.R (Kd.int .u8) 5 w' w.heap.size (fun _ => True) (.slice Ao30 x3_3.length co30) x3_3) ∧ Aside0 (Below w.heap.size w w'))
                      case atStart => exact ⟨(0), (wrap64 ((x3_3.length : Int) - 15)), (by first | rfl | (simp; done) | (simp [*]; done)), (by first | rfl | (simp; done) | (simp [*]; done)), H', ⟨Nat.le_refl _⟩, ⟨by (with_reducible repeat (first | apply Kd.R_alloc | apply Kd.R_drewN | apply Kd.R_drew)); exact HO_3.out⟩, ⟨by repeat (first | (with_reducible first | exact HB.out | apply below_alloc | apply pw_below_drewN | apply below_drew1) | exact HB.out)⟩⟩
                      case round =>
                        clear H'
                        try clear c1
                        try clear p1
                        try clear q1
                        try clear hx1
                        try clear c2
                        try clear p2
                        try clear q2
                        try clear hx2
                        try clear hf2
                        try clear c3
                        try clear c4
                        try clear c6
                        try clear c6b0
                        try clear p6
                        try clear c7
                        try clear c7b0
                        try clear p8
                        try clear q8
                        try clear hx8
                        try clear c9
                        try clear c11
                        try clear c11b0
                        try clear p11
                        try clear q11
                        try clear hx11
                        try clear c12
                        try clear c14
                        try clear c14b0
                        try clear c15
                        try clear c15b0
                        try clear c16
                        try clear c16b0
                        try clear c17
                        try clear c17b0
                        try clear c17b1
                        try clear c19
                        try clear c19b0
                        try clear c21
                        try clear c21b0
                        try clear c22
                        try clear c22b0
                        try clear c23
                        try clear c23b0
                        try clear c24
                        try clear c24b0
                        try clear p25
                        try clear q25
                        try clear hx25
                        try clear p26
                        try clear q26
                        try clear hx26
                        try clear hf26
                        try clear hx111_0
                        try clear hx112_0
                        try clear hx26_0
                        try clear p1
                        try clear p11
                        try clear p111
                        try clear p112
                        try clear p2
                        try clear p25
                        try clear p26
                        try clear p6
                        try clear p8
                        try clear q1
                        try clear q11
                        try clear q111
                        try clear q112
                        try clear q25
                        try clear q26
                        try clear q8
                        obtain ⟨x9_4, x10_4, rfl, rfl, HA, HK4, HO_3, HB⟩ := hrel
                        cases gk with
                        | zero => exact absurd HA.out (by simp [spec_Crc15.l4])
                        | succ k4 =>
                          have H := HA.out
                          clear HA
                          simp only [spec_Crc15.l4] at H
                          by_cases c31 : x10_4 < (x3_3.length : Int)
                          · rw [if_pos c31] at H
                            have c31b0 : decide (x10_4 < (x3_3.length : Int)) = true := decide_eq_true c31
                            clear c31
                            by_cases c32 : 0 ≤ x10_4
                            · rw [if_pos c32] at H
                              have c32b0 : decide (0 ≤ x10_4) = true := decide_eq_true c32
                              clear c32
                              have H' := Aside0.mk H
                              clear H
                              have p114 : 0 ≤ (x10_4 : Int) := of_decide_eq_true (by first | (with_reducible assumption) | assumption)
                              have q114 : x10_4 < (x3_3.length : Int) := of_decide_eq_true (by first | (with_reducible assumption) | assumption)
                              obtain ⟨ad114, e114, hx114_0⟩ := Kd.at_int (Kd.R_reads' HO_3.out).2.2 x10_4 p114 q114
                              cases e114
                              replace p114 := eq_true p114
                              replace q114 := eq_true q114
                              go_wp2
                              go_roundg k4
                              case measure => have := HK1.out; have := HK2.out; have := HK3.out; have := HK4.out; omega
                              case rel => exact ⟨(wrap64 ((wrap64 (2 * x9_4)) + (wrap64 (rd x3_3 x10_4)))), (wrap64 (x10_4 + 1)), (by first | rfl | (simp; done) | (simp [*]; done)), (by first | rfl | (simp; done) | (simp [*]; done)), H', ⟨by have := HK1.out; have := HK2.out; have := HK3.out; have := HK4.out; omega⟩, ⟨by (with_reducible repeat (first | apply Kd.R_alloc | apply Kd.R_drewN | apply Kd.R_drew)); exact HO_3.out⟩, ⟨by repeat (first | (with_reducible first | exact HB.out | apply below_alloc | apply pw_below_drewN | apply below_drew1) | exact HB.out)⟩⟩
                            · rw [if_neg c32] at H
                              exact absurd H (by simp)
                          · rw [if_neg c31] at H
                            have c31b0 : decide (x10_4 < (x3_3.length : Int)) = false := decide_eq_false c31
                            clear c31
                            obtain rfl := Option.some.inj H
                            go_wp2
                            go_ret
                            exact ⟨by first | rfl | (simp [errW_none, errW_some] <;> rfl) | (simp [*, errW_none, errW_some] <;> rfl), by repeat (first | (with_reducible first | exact HB.out | apply below_alloc | apply pw_below_drewN | apply below_drew1) | exact HB.out)⟩
  · replace c3 := Bool.eq_false_iff.mpr c3
    subst c3
    have H1 : (some (-1)) = some r := by rw [if_neg (show ¬ (false = true) by decide)] at H; exact H
    clear H
    have H := H1
    clear H1
    obtain rfl := Option.some.inj H
    go_enter Try.func15, Try.ntmps15
    go_wp2_with (first | ((with_reducible refine gate_callee (f := 46) rfl ?_); refine goesL_ (some 12) rfl rfl Try.func46 (by kernel_rfl) rfl #[.string a0, .int .i64 2000] rfl (by (try simp only [List.map_toArray, List.map_cons, List.map_nil]); first | done | rfl | (simp only [List.length_drop, List.length_take]; rfl)) ?_; (with_reducible refine (spec_l1okBits.calls k a0 2000 false _ A2.out).mono ?_); rintro e w' ⟨rfl, ⟨nd, rfl⟩⟩; refine ⟨_, rfl, ?_⟩))
    go_ret
    exact ⟨by first | rfl | (simp [errW_none, errW_some] <;> rfl) | (simp [*, errW_none, errW_some] <;> rfl), by repeat (first | (with_reducible first | exact HB.out | apply below_alloc | apply pw_below_drewN | apply below_drew1) | exact HB.out)⟩

end Go.Proofs.Ytogedkkdhonmlaa.P

namespace Go.Proofs.Ytogedkkdhonmlaa.P
open Go Go.RowKit Go.Proofs.YtogedkkdhonmlaaW.PrintWords
set_option linter.unusedVariables false
/-! ### Bit texts -/
def isBit (c : UInt8) : Bool := c == 48 || c == 49
def isBits (s : ByteArray) : Bool := s.data.toList.all isBit
def BitsTo (s : ByteArray) (pos : Nat) : Prop := ∀ i (h : i < s.size), i < pos → isBit (s[i]'h) = true
theorem bitsTo_zero (s : ByteArray) : BitsTo s 0 := fun i _ h => absurd h (Nat.not_lt_zero i)
theorem bitsTo_succ {s : ByteArray} {pos : Nat} (h : BitsTo s pos) (hp : pos < s.size) (hb : isBit (s[pos]'hp) = true) : BitsTo s (pos + 1) := by
  intro i hi hlt
  by_cases e : i = pos
  · subst e; exact hb
  · exact h i hi (by omega)
theorem isBits_iff (s : ByteArray) : isBits s = true ↔ BitsTo s s.size := by
  unfold isBits BitsTo
  rw [List.all_eq_true]
  constructor
  · intro h i hi _
    exact h _ (by show s.data[i] ∈ _; simp)
  · intro h x hx
    obtain ⟨i, hi, rfl⟩ := List.getElem_of_mem hx
    have hs : i < s.size := by simpa using hi
    have h2 := h i hs hs
    rw [Array.getElem_toList]
    exact h2
theorem isBits_of (s : ByteArray) {pos : Nat} (hb : BitsTo s pos) (hp : ¬ pos < s.size) : isBits s = true :=
  (isBits_iff s).2 fun i hi _ => hb i hi (by omega)
theorem isBits_not (s : ByteArray) {pos : Nat} (hp : pos < s.size) (hn : isBit (s[pos]'hp) = false) : isBits s = false := by
  cases h : isBits s with
  | false => rfl
  | true => have := (isBits_iff s).1 h pos hp hp; rw [this] at hn; cases hn
theorem isBits_at {s : ByteArray} (h : isBits s = true) {pos : Nat} (hp : pos < s.size) : isBit (s[pos]'hp) = true := (isBits_iff s).1 h pos hp hp
theorem isBit_cases {c : UInt8} (h : isBit c = true) : c = 48 ∨ c = 49 := by
  unfold isBit at h; simpa using h
theorem not_bit {c : UInt8} (h : isBit c = false) : c.toNat ≠ 48 ∧ c.toNat ≠ 49 := by
  unfold isBit at h
  rw [Bool.or_eq_false_iff] at h
  obtain ⟨h1, h2⟩ := h
  rw [beq_eq_false_iff_ne] at h1 h2
  exact ⟨fun e => h1 (UInt8.toNat_inj.1 e), fun e => h2 (UInt8.toNat_inj.1 e)⟩
theorem decode_notBit (s : ByteArray) (pos : Nat) (hp : pos < s.size) (hn : isBit (s[pos]'hp) = false) : ((((Utf8.decode s pos).1 : Nat) : Int) == 48) = false ∧ ((((Utf8.decode s pos).1 : Nat) : Int) == 49) = false := by
  obtain ⟨h1, h2⟩ := not_bit hn
  by_cases ha : (s[pos]'hp).toNat < 128
  · rw [decode_ascii s pos hp ha]
    constructor <;> rw [beq_eq_false_iff_ne] <;> simp only <;> omega
  · have := (decode_high s pos hp (by omega)).1
    constructor <;> rw [beq_eq_false_iff_ne] <;> omega
theorem next_bit {P : Program} (w : World) (s : ByteArray) (pos : Nat) (ty : TypeId) (hp : pos < s.size) {b : Nat} (hb : (s[pos]'hp).toNat = b) (hlt : b < 128) :
    (Instr.next (.pointer (some ⟨w.heap.size, 0, none⟩)) true ty).run P (w.iter s pos) = .ok (.tuple #[.bool true, .int .i64 pos, .int .i32 b]) (w.iter s (pos + 1)) := by
  rw [run_next_ascii w s pos ty hp (by omega), hb]
theorem below_iter (w : World) (s : ByteArray) (pos : Nat) : Below w.heap.size w (w.iter s pos) := (Below.refl _ _).alloc (Nat.le_refl _) _

/-! ### The register of the sum -/
def crcI (r b : Int) : Int := if (Go.bits .xor .i64 (Go.bits .and .i64 (r / 16384) 1) b) = 1 then Go.bits .xor .i64 (Go.bits .and .i64 (wrap64 (r * 2)) 32767) 17817 else Go.bits .and .i64 (wrap64 (r * 2)) 32767
/-- A fold over the first letters of a text. -/
def foldTo {α : Type} (f : α → Int → α) (z : α) (s : ByteArray) (pos : Nat) : α := ((bytesOf s).take pos).foldl f z
theorem foldTo_zero {α : Type} (f : α → Int → α) (z : α) (s : ByteArray) : foldTo f z s 0 = z := by simp [foldTo]
theorem foldTo_succ {α : Type} (f : α → Int → α) (z : α) (s : ByteArray) (pos : Nat) (hp : pos < s.size) {b : Nat} (hb : (s[pos]'hp).toNat = b) : foldTo f z s (pos + 1) = f (foldTo f z s pos) b := by
  have hl : pos < (bytesOf s).length := by rw [bytesOf_length]; exact hp
  have he : (bytesOf s)[pos]'hl = (b : Int) := by
    have h2 : (bytesOf s)[pos]? = some (b : Int) := by
      unfold bytesOf
      rw [List.getElem?_map, Array.getElem?_toList, Array.getElem?_eq_getElem (show pos < s.data.size from hp), ← hb]
      rfl
    rw [List.getElem?_eq_getElem hl] at h2
    exact Option.some.inj h2
  unfold foldTo
  rw [List.take_succ_eq_append_getElem hl, List.foldl_append, he]
  rfl
theorem foldTo_end {α : Type} (f : α → Int → α) (z : α) (s : ByteArray) (pos : Nat) (hp : ¬ pos < s.size) : foldTo f z s pos = (bytesOf s).foldl f z := by
  unfold foldTo
  rw [List.take_of_length_le (by rw [bytesOf_length]; omega)]
def crcOf (s : ByteArray) : Int := (bytesOf s).foldl (fun r c => crcI r (c - 48)) 0
/-! ### Stuffing, letter by letter -/
def stuffStep (st : List Int × Int × Int) (c : Int) : List Int × Int × Int :=
  if (if c = st.2.2 then st.2.1 + 1 else 1) = 5 then (st.1 ++ [c] ++ [97 - c], 1, 97 - c) else (st.1 ++ [c], (if c = st.2.2 then st.2.1 + 1 else 1), c)
def stuffTo (s : ByteArray) (pos : Nat) : List Int × Int × Int := foldTo stuffStep ([], 0, 120) s pos
def stuffL (l : List Int) : List Int := (l.foldl stuffStep ([], 0, 120)).1
theorem stuffTo_zero (s : ByteArray) : stuffTo s 0 = ([], 0, 120) := foldTo_zero _ _ _
theorem stuffTo_succ (s : ByteArray) (pos : Nat) (hp : pos < s.size) {b : Nat} (hb : (s[pos]'hp).toNat = b) : stuffTo s (pos + 1) = stuffStep (stuffTo s pos) b := foldTo_succ _ _ _ _ hp hb
theorem stuffTo_end (s : ByteArray) (pos : Nat) (hp : ¬ pos < s.size) : (stuffTo s pos).1 = stuffL (bytesOf s) := by
  unfold stuffTo stuffL; rw [foldTo_end _ _ _ _ hp]
theorem foldTo_over {α : Type} (f : α → Int → α) (z : α) (s : ByteArray) (pos : Nat) (hp : ¬ pos < s.size) : foldTo f z s (pos + 1) = foldTo f z s pos := by
  rw [foldTo_end _ _ _ _ hp, foldTo_end _ _ _ _ (by omega)]
/-- What holds of a state of a fold over a text's beginning. -/
theorem foldTo_inv {α : Type} (f : α → Int → α) (z : α) (s : ByteArray) (I : Nat → α → Prop) (h0 : I 0 z) (h1 : ∀ n a c, I n a → I (n + 1) (f a c)) (hm : ∀ n a, I n a → I (n + 1) a) (pos : Nat) : I pos (foldTo f z s pos) := by
  induction pos with
  | zero => rw [foldTo_zero]; exact h0
  | succ n ih =>
    by_cases hp : n < s.size
    · rw [foldTo_succ f z s n hp rfl]; exact h1 _ _ _ ih
    · rw [foldTo_over f z s n hp]; exact hm _ _ ih
theorem stuffTo_bounds (s : ByteArray) (pos : Nat) : (stuffTo s pos).1.length ≤ 2 * pos ∧ 0 ≤ (stuffTo s pos).2.1 ∧ (stuffTo s pos).2.1 ≤ pos := by
  refine foldTo_inv stuffStep ([], 0, 120) s (fun n a => a.1.length ≤ 2 * n ∧ 0 ≤ a.2.1 ∧ a.2.1 ≤ n) ⟨by simp, by simp, by simp⟩ (fun n a c h => ?_) (fun n a h => ⟨by omega, h.2.1, by omega⟩) pos
  obtain ⟨h1, h2, h3⟩ := h
  have hr : 0 ≤ (if c = a.2.2 then a.2.1 + 1 else 1) ∧ (if c = a.2.2 then a.2.1 + 1 else 1) ≤ (n : Int) + 1 := by split <;> omega
  unfold stuffStep
  generalize (if c = a.2.2 then a.2.1 + 1 else 1) = run at *
  split
  · exact ⟨by simp; omega, by simp, by simp; omega⟩
  · exact ⟨by simp; omega, hr.1, by have := hr.2; simp only []; omega⟩
/-! ### Taking the stuff bits out -/
def destuffL : List Int → Int → Int → Int → List Int → List Int × Int
  | [], _, _, _, out => (out, -1)
  | c :: l, i, run, last, out => if run = 5 then (if c = last then (out, i) else destuffL l (i + 1) 1 c out) else destuffL l (i + 1) (if c = last then run + 1 else 1) c (out ++ [c])
theorem drop_cons (s : ByteArray) (pos : Nat) (hp : pos < s.size) {b : Nat} (hb : (s[pos]'hp).toNat = b) : (bytesOf s).drop pos = (b : Int) :: (bytesOf s).drop (pos + 1) := by
  have hl : pos < (bytesOf s).length := by rw [bytesOf_length]; exact hp
  rw [List.drop_eq_getElem_cons hl]
  congr 1
  have h2 : (bytesOf s)[pos]? = some (b : Int) := by
    unfold bytesOf
    rw [List.getElem?_map, Array.getElem?_toList, Array.getElem?_eq_getElem (show pos < s.data.size from hp), ← hb]
    rfl
  rw [List.getElem?_eq_getElem hl] at h2
  exact Option.some.inj h2
theorem drop_end (s : ByteArray) (pos : Nat) (hp : ¬ pos < s.size) : (bytesOf s).drop pos = [] := List.drop_eq_nil_of_le (by rw [bytesOf_length]; omega)
/-- Where the walk stands: what is still to come gives R. -/
structure DesAt (s : ByteArray) (R : List Int × Int) (pos : Nat) (out : List Int) (run last : Int) : Prop where
  eq : destuffL ((bytesOf s).drop pos) pos run last out = R
  len : out.length ≤ pos
  lo : 0 ≤ run
  hi : run ≤ 5
theorem DesAt.zero (s : ByteArray) : DesAt s (destuffL (bytesOf s) 0 0 120 []) 0 [] 0 120 := ⟨by rw [List.drop_zero]; rfl, by simp, by omega, by omega⟩
theorem DesAt.step {s : ByteArray} {R : List Int × Int} {pos : Nat} {out : List Int} {run last : Int} (h : DesAt s R pos out run last) (hp : pos < s.size) {b : Nat} (hb : (s[pos]'hp).toNat = b) (hr : run ≠ 5) : DesAt s R (pos + 1) (out ++ [(b : Int)]) (if (b : Int) = last then run + 1 else 1) b := by
  have e := h.eq
  have h1 := h.len; have h2 := h.lo; have h3 := h.hi
  rw [drop_cons s pos hp hb, destuffL, if_neg hr] at e
  refine ⟨e, by rw [List.length_append]; simp; omega, ?_, ?_⟩
  · split <;> omega
  · split <;> omega
theorem DesAt.skip {s : ByteArray} {R : List Int × Int} {pos : Nat} {out : List Int} {last : Int} (h : DesAt s R pos out 5 last) (hp : pos < s.size) {b : Nat} (hb : (s[pos]'hp).toNat = b) (hl : (b : Int) ≠ last) : DesAt s R (pos + 1) out 1 b := by
  have e := h.eq
  have h1 := h.len
  rw [drop_cons s pos hp hb, destuffL, if_pos rfl, if_neg hl] at e
  exact ⟨e, by omega, by omega, by omega⟩
theorem DesAt.stop {s : ByteArray} {R : List Int × Int} {pos : Nat} {out : List Int} {last : Int} (h : DesAt s R pos out 5 last) (hp : pos < s.size) {b : Nat} (hb : (s[pos]'hp).toNat = b) (hl : (b : Int) = last) : R = (out, (pos : Int)) := by
  have e := h.eq
  rw [drop_cons s pos hp hb, destuffL, if_pos rfl, if_pos hl] at e
  exact e.symm
theorem DesAt.over {s : ByteArray} {R : List Int × Int} {pos : Nat} {out : List Int} {run last : Int} (h : DesAt s R pos out run last) (hp : ¬ pos < s.size) : R = (out, -1) := by
  have e := h.eq
  rw [drop_end s pos hp, destuffL] at e
  exact e.symm
/-- What Destuff says of a text. -/
def destuffV (s : ByteArray) : ByteArray × Int := if s.size ≤ 4000 ∧ isBits s = true then (strOfNums (destuffL (bytesOf s) 0 0 120 []).1, (destuffL (bytesOf s) 0 0 120 []).2) else (⟨#[]⟩, -2)
end Go.Proofs.Ytogedkkdhonmlaa.P

namespace Go.Proofs.Ytogedkkdhonmlaa.P
open Go.RowKit Go.Proofs.YtogedkkdhonmlaaW.PrintWords Go.Proofs.YtogedkkdhonmlaaW.PrintLast Go.Proofs.YtogedkkdhonmlaaW.PrintMore
attribute [local go_sem] max2_int min2_int max_two min_two max_three min_three max_four min_four
set_option linter.unusedVariables false
set_option linter.unusedSimpArgs false

-- GIVEN rounds=0 making=1 import=Derived.Test.YtogedkkdhonmlaaOwn
/-! ### impl_bitText: function 47 -/
def impl_bitText.f (a0 : ByteArray) (a1 : Int) : Option (Bool) := some (decide ((a0.size : Int) ≤ a1) && isBits a0)
theorem impl_bitText.calls (a0 : ByteArray) (a1 : Int) (r : Bool) (w : World) (h : impl_bitText.f a0 a1 = some r) :
    Calls Try.prog 47 #[.string a0, .int .i64 a1] w fun e w' => e = .returned (.bool r) ∧ Below w.heap.size w w' := by
  by_cases c1 : (a0.size : Int) ≤ a1
  · have c1b : decide (a1 < (a0.size : Int)) = false := decide_eq_false (by omega)
    have hr : Hid (r = isBits a0) := by
      have h1 := Option.some.inj h
      rw [decide_eq_true c1, Bool.true_and] at h1
      exact Lib.hid h1.symm
    clear h c1
    go_enter Try.func47, Try.ntmps47
    go_wp2
    go_loopw [] (fun w' => ∃ pos : Nat, w' = w.iter a0 pos ∧ BitsTo a0 pos) (fun w' => a0.size - w'.iterPos w.heap.size)
    case atStart => exact ⟨0, rfl, bitsTo_zero a0⟩
    case round =>
      obtain ⟨pos, rfl, hb⟩ := hrel
      have HB := Lib.hid hb
      clear hb
      by_cases hp : pos < a0.size
      · cases hbit : isBit (a0[pos]'hp) with
        | true =>
          have HT : Hid (isBit (a0[pos]'hp) = true) := Lib.hid hbit
          rcases isBit_cases hbit with e | e
          · have hnx := fun ty => next_bit (P := Try.prog) w a0 pos ty hp (b := 48) (by rw [e]; rfl) (by omega)
            clear e hbit
            go_wp2
            go_roundw
            case rel => exact ⟨pos + 1, rfl, bitsTo_succ HB.out hp HT.out⟩
            case measure => simp; omega
          · have hnx := fun ty => next_bit (P := Try.prog) w a0 pos ty hp (b := 49) (by rw [e]; rfl) (by omega)
            clear e hbit
            go_wp2
            go_roundw
            case rel => exact ⟨pos + 1, rfl, bitsTo_succ HB.out hp HT.out⟩
            case measure => simp; omega
        | false =>
          have HF := Lib.hid (isBits_not a0 hp hbit)
          obtain ⟨h48, h49⟩ := decode_notBit a0 pos hp hbit
          have h48' : ((((Utf8.decode a0 pos).1 : Nat) : Int) != 48) = true := by rw [bne, h48]; rfl
          have h49' : ((((Utf8.decode a0 pos).1 : Nat) : Int) != 49) = true := by rw [bne, h49]; rfl
          have hnx := fun ty => run_next_any (P := Try.prog) w a0 pos ty hp
          clear hbit
          go_wp2
          go_ret
          exact ⟨by rw [hr.out, HF.out]; rfl, below_iter _ _ _⟩
      · have hnx := fun ty => run_next_end (P := Try.prog) w a0 pos ty hp
        have HF := Lib.hid (isBits_of a0 HB.out hp)
        go_wp2
        go_ret
        exact ⟨by rw [hr.out, HF.out]; rfl, below_iter _ _ _⟩
  · have c1b : decide (a1 < (a0.size : Int)) = true := decide_eq_true (by omega)
    have hr : r = false := by
      have h1 := Option.some.inj h
      rw [decide_eq_false c1, Bool.false_and] at h1
      exact h1.symm
    subst hr
    clear h c1
    go_enter Try.func47, Try.ntmps47
    go_wp2
    go_ret
    exact ⟨rfl, Below.refl _ _⟩

end Go.Proofs.Ytogedkkdhonmlaa.P

namespace Go.Proofs.Ytogedkkdhonmlaa.P
open Go Go.RowKit Go.Proofs.YtogedkkdhonmlaaW.PrintWords
set_option linter.unusedVariables false
/-! ### Facts on the program's types; an iterator beside rows of the call's own -/
theorem infoU8 : (Try.prog.info? 5).map (fun i => (i.zero, i.size, i.bytes)) = some (some (.int .u8 0), 1, 1) := by kernel_rfl
theorem R_iterAt {α : Type} {d : Kd α} {e : Nat} {w : World} {base : Nat} {ok : Nat → Prop} {v : Value} {xs : List α} (h : d.R e w base ok v xs) {k : Nat} {s : ByteArray} {pos : Nat} (hk : w.heap[k]? = some (.stringIter s pos)) (pos' : Nat) :
    d.R e (w.iterAt k s pos') base ok v xs :=
  Kd.R_mono (Kd.R_move (Kd.R_bound h) (fun j hj => by
    obtain ⟨_, _, _, q, _, cells, hc⟩ := hj
    refine Lib.iterAt_other w k j s pos' ?_
    rintro rfl
    rw [hk] at hc
    cases hc)) (fun _ hj => hj.1)
theorem iter_grown {α : Type} {d : Kd α} {e : Nat} {W w1 : World} {base : Nat} {ok : Nat → Prop} {v : Value} {xs : List α} (h : d.R e W base ok v xs) (hg : W.grownBy w1 v.ownBlock) {k : Nat} {s : ByteArray} {pos : Nat} (hk : W.heap[k]? = some (.stringIter s pos)) : w1.heap[k]? = some (.stringIter s pos) := by
  rw [hg.block k (Array.getElem?_eq_some_iff.1 hk).1 ?_, hk]
  intro e1
  obtain ⟨inner, ho⟩ := Kd.R_own h
  obtain ⟨cells, hc⟩ := own_typed ho k e1.symm
  rw [hk] at hc
  cases hc
theorem iter_new (w : World) (s : ByteArray) (pos : Nat) : (w.iter s pos).heap[w.heap.size]? = some (.stringIter s pos) := World.iter_heap w s pos
theorem next_bit_at {P : Program} (w : World) (k : Nat) (s : ByteArray) (pos : Nat) (ty : TypeId) (hk : w.heap[k]? = some (.stringIter s pos)) (hp : pos < s.size) {b : Nat} (hb : (s[pos]'hp).toNat = b) (hlt : b < 128) :
    (Instr.next (.pointer (some ⟨k, 0, none⟩)) true ty).run P w = .ok (.tuple #[.bool true, .int .i64 pos, .int .i32 b]) (w.iterAt k s (pos + 1)) := by
  rw [Lib.run_next_ascii_at w k s pos ty hk hp (by omega), hb]
theorem R_iter {α : Type} {d : Kd α} {e : Nat} {w : World} {base : Nat} {ok : Nat → Prop} {v : Value} {xs : List α} (h : d.R e w base ok v xs) (s : ByteArray) (pos : Nat) : d.R e (w.iter s pos) base ok v xs := Kd.R_below h (below_iter w s pos)
/-- What '[]byte(s)' leaves. -/
theorem below_bytes {B : Nat} {a w : World} (h : Below B a w) (hB : B ≤ w.heap.size) (e : TypeId) (s : ByteArray) : Below B a (Lib.bytesWorld w e s) :=
  h.trans ⟨rfl, rfl, rfl, by rw [Lib.bytesWorld_size]; omega, fun j hj => Lib.bytesWorld_at_old w e s j (by omega)⟩
theorem bytes_C (w : World) (e : TypeId) (s : ByteArray) (hs : s.size ≤ 9223372036854775807) : Kd.C (Kd.int .u8) (Lib.bytesWorld w e s) (some ⟨w.heap.size, 0, none⟩) s.size (bytesOf s) := by
  refine ⟨bytesOf_length s, hs, fun _ => ⟨_, rfl, fun j p hj => ⟨[.int .u8 p], rfl, rfl, fun i u hu => ?_⟩⟩⟩
  have hlt : j < s.size := by have := (List.getElem?_eq_some_iff.1 hj).1; rw [bytesOf_length] at this; exact this
  have hp : p = ((s.data.toList.getD j 0).toNat : Int) := by
    unfold bytesOf at hj
    rw [List.getElem?_map, Array.getElem?_toList, Array.getElem?_eq_getElem (show j < s.data.size from hlt)] at hj
    rw [List.getD_eq_getElem?_getD, Array.getElem?_toList, Array.getElem?_eq_getElem (show j < s.data.size from hlt)]
    exact (Option.some.inj hj).symm
  match i, hu with
  | 0, hu =>
    obtain rfl := Option.some.inj hu
    show (Lib.bytesWorld w e s).cell? ((⟨w.heap.size, 0, none⟩ : Addr).add (j * 1 + 0)) = _
    rw [add_plain, Nat.mul_one, Nat.add_zero, Lib.bytesWorld_cell w e s j hlt, hp]
theorem C_cell {k : IntKind} {w : World} {g n : Nat} {xs : List Int} (h : (Kd.int k).C w (some ⟨g, 0, none⟩) n xs) (i : Nat) (hi : i < n) : w.cell? ⟨g, i, none⟩ = some (.int k (rd xs (i : Int))) := by
  obtain ⟨ad, e, hc⟩ := Kd.at_int h (i : Int) (by omega) (by omega)
  obtain rfl := Option.some.inj e
  rw [add_plain] at hc
  exact hc
theorem C_block {k : IntKind} {w w' : World} {g n : Nat} {xs : List Int} (h : (Kd.int k).C w (some ⟨g, 0, none⟩) n xs) (hb : w'.heap[g]? = w.heap[g]?) : (Kd.int k).C w' (some ⟨g, 0, none⟩) n xs := by
  refine ⟨h.1, h.2.1, fun hn => ?_⟩
  obtain ⟨ad, e, hc⟩ := h.2.2 hn
  obtain rfl := Option.some.inj e
  refine ⟨_, rfl, fun j p hj => ?_⟩
  obtain ⟨c, h1, h2, h3⟩ := hc j p hj
  refine ⟨c, h1, h2, fun i u hu => ?_⟩
  have := h3 i u hu
  rw [add_plain] at this ⊢
  rw [← this]
  simp only [World.cell?, hb]
theorem C_kept {k : IntKind} {W w1 : World} {g n : Nat} {xs : List Int} {v : Value} (h : (Kd.int k).C W (some ⟨g, 0, none⟩) n xs) (hg : W.grownBy w1 v.ownBlock) (hlt : g < W.heap.size) (hne : ∀ j, v.ownBlock = some j → j ≠ g) : (Kd.int k).C w1 (some ⟨g, 0, none⟩) n xs :=
  C_block h (hg.block g hlt (fun e => hne g e.symm rfl))
theorem R_empty {α : Type} (d : Kd α) (w : World) (e base : Nat) (hb : base ≤ w.heap.size) (ok : Nat → Prop) (hok : ok w.heap.size) : d.R e (w.alloc (.cells #[] e)) base ok (.slice (some ⟨w.heap.size, 0, none⟩) 0 0) [] := by
  refine ⟨fun k hk => by (obtain rfl : w.heap.size = k := Option.some.inj hk); exact hok, [], ⟨by simp, .inr ⟨w.heap.size, 0, #[], rfl, hb, ?_, Nat.le_refl _, by simp [maxLen], by simp, by simp⟩⟩, Reps.none _ _⟩
  exact heap_alloc_new w _
theorem iterPos_at {w : World} {k : Nat} {s : ByteArray} {pos : Nat} (hk : w.heap[k]? = some (.stringIter s pos)) : w.iterPos k = pos := by
  unfold World.iterPos; rw [hk]
theorem make_R {P : Program} {α : Type} (d : Kd α) (w : World) (base : Nat) (t e : TypeId) (z : Value) (bytes : Nat) (ht : P.underlying t = some (.slice e)) (hinfo : (P.info? e).map (fun i => (i.zero, i.size, i.bytes)) = some (some z, d.sz, bytes)) (c : Nat) (hb : bytes * c ≤ 281474976710656) (h63 : c ≤ maxLen) (hbase : base ≤ w.heap.size) :
    ∃ w' cap, (Instr.makeSlice t (.int .i64 0) (.int .i64 (c : Int))).run P w = .ok (.slice (some ⟨w.heap.size, 0, none⟩) 0 cap) w' ∧
      d.R e w' base (fun _ => True) (.slice (some ⟨w.heap.size, 0, none⟩) 0 cap) [] ∧ w.grownBy w' none := by
  obtain ⟨i, hi, hh⟩ := Option.map_eq_some_iff.1 hinfo
  simp only [Prod.mk.injEq] at hh
  obtain ⟨hz, hs, hby⟩ := hh
  obtain ⟨w', h1, h2, h3⟩ := run_make_own (P := P) w base t e i z d.sz ht hi hz hs .i64 .i64 c (by rw [hby]; exact hb) h63 hbase
  exact ⟨w', c, h1, ⟨fun _ _ => trivial, [], h2, Reps.none _ _⟩, h3⟩
end Go.Proofs.Ytogedkkdhonmlaa.P

namespace Go.Proofs.Ytogedkkdhonmlaa.P
open Go.RowKit Go.Proofs.YtogedkkdhonmlaaW.PrintWords Go.Proofs.YtogedkkdhonmlaaW.PrintLast Go.Proofs.YtogedkkdhonmlaaW.PrintMore
attribute [local go_sem] max2_int min2_int max_two min_two max_three min_three max_four min_four
set_option linter.unusedVariables false
set_option linter.unusedSimpArgs false

-- GIVEN rounds=0 making=1 import=Derived.Test.YtogedkkdhonmlaaWorld
/-! ### impl_Destuff: function 18 -/
def impl_Destuff.f (a0 : ByteArray) : Option (ByteArray × Int) := some (destuffV a0)
set_option maxHeartbeats 2000000 in
theorem impl_Destuff.yes (a0 : ByteArray) (R : List Int × Int) (w : World) (hsz : a0.size ≤ 4000) (hB0 : isBits a0 = true) (hR : destuffL (bytesOf a0) 0 0 120 [] = R) :
    Calls Try.prog 18 #[.string a0] w fun e w' => e = .returned (.tuple #[.string (strOfNums R.1), .int .i64 R.2]) ∧ Below w.heap.size w w' := by
  have hbt : Hid (impl_bitText.f a0 4000 = some true) := by
    refine Lib.hid ?_
    unfold impl_bitText.f
    rw [hB0, decide_eq_true (by omega)]; rfl
  have HB := Lib.hid hB0
  have H0 : Hid (DesAt a0 R 0 [] 0 120) := Lib.hid (hR ▸ DesAt.zero a0)
  clear hB0 hR
  go_enter Try.func18, Try.ntmps18
  go_wp2_with (go_at_call 47; refine (impl_bitText.calls _ _ true _ hbt.out).mono ?_; rintro e w1 ⟨rfl, hb1⟩; obtain ⟨w2, cap, hmk, ho2, hg2⟩ := make_R (P := Try.prog) (Kd.int .u8) w1 w.heap.size 38 5 (.int .u8 0) 1 Try.underlying38 infoU8 a0.size (by omega) (by simp only [maxLen]; omega) hb1.size; have HO2 := Lib.hid ho2; have HBL := Lib.hid (hb1.grown hg2 hb1.size (fun k hk => by cases hk)); clear ho2 hb1 hg2)
  go_loopw [4, 5, 6] (fun v3 v4 v5 wr => ∃ (pos : Nat) (out : List Int) (run last : Int), DesAt a0 R pos out run last ∧ wr.heap[w2.heap.size]? = some (.stringIter a0 pos) ∧ Aside0 (Kd.R (Kd.int .u8) 5 wr w.heap.size (fun _ => True) v3 out) ∧ Aside0 (Below w.heap.size w wr) ∧ v4 = .int .i64 run ∧ v5 = .int .i32 last) (fun _ _ _ wr => a0.size - wr.iterPos w2.heap.size)
  case atStart => exact ⟨0, [], 0, 120, H0.out, iter_new _ _ _, ⟨R_iter HO2.out a0 0⟩, ⟨HBL.out.alloc HBL.out.size _⟩, rfl, rfl⟩
  case round =>
    obtain ⟨pos, out, run, last, hst, hit, HO, HW, rfl, rfl⟩ := hrel
    have HL := Lib.hid hst.len
    have hr0 := hst.lo
    have hr1 := hst.hi
    have HSZ : Hid (w.heap.size ≤ w2.heap.size) := Lib.hid HBL.out.size
    by_cases hp : pos < a0.size
    · have hbit := isBits_at HB.out hp
      rcases isBit_cases hbit with e | e
      · have hnx := fun ty => next_bit_at (P := Try.prog) _ _ a0 pos ty hit hp (b := 48) (by rw [e]; rfl) (by omega)
        have HIT := Lib.hid hit
        have HE : Hid ((a0[pos]'hp).toNat = 48) := Lib.hid (by rw [e]; rfl)
        clear e hbit hit
        by_cases c5 : run = 5
        · subst c5
          by_cases c1 : 48 = last
          · have HS := Lib.hid (hst.stop hp HE.out c1)
            subst c1
            have hcv := own_string (P := Try.prog) Try.underlying38 Try.underlying5 Try.underlying9 (Kd.own_of_R (R_iterAt HO.out HIT.out (pos + 1)))
            clear hst
            go_wp2
            go_ret2
            exact ⟨by rw [HS.out]; rfl, (Lib.below_iterAt HW.out HSZ.out a0 (pos + 1))⟩
          · have HS := Lib.hid (hst.skip hp HE.out c1)
            have c3 : ((48 : Int) == last) = false := by rw [beq_eq_false_iff_ne]; exact c1
            clear hst c1
            go_wp2
            go_roundw
            case rel => exact ⟨pos + 1, _, _, _, HS.out, Lib.iterAt_heap _ _ a0 pos (pos + 1) HIT.out, ⟨R_iterAt HO.out HIT.out (pos + 1)⟩, ⟨(Lib.below_iterAt HW.out HSZ.out a0 (pos + 1))⟩, rfl, rfl⟩
            case measure => rw [iterPos_at (Lib.iterAt_heap _ _ a0 pos (pos + 1) HIT.out), iterPos_at HIT.out]; omega
        · have c4 : ((run : Int) == 5) = false := by rw [beq_eq_false_iff_ne]; exact c5
          by_cases c1 : 48 = last
          · have HS : Hid (DesAt a0 R (pos + 1) (out ++ [48]) (run + 1) 48) := Lib.hid (by have h := hst.step hp HE.out c5; rw [if_pos (show ((48 : Nat) : Int) = last from c1)] at h; exact h)
            subst c1
            clear hst c5
            go_wp2_with (first | (at_builtin; refine Kd.R_append (Kd.int .u8) (w0 := w) w.heap.size rfl (.tmp 43) (.tmp 46) 38 5 (.int .u8 0) 1 rfl Try.underlying38 infoU8 rfl (by decide) (by omega) _ out 48 [.int .u8 48] (fun _ => True) (fun _ => False) rfl rfl ?aP (fun _ hk => hk.elim) ?aF ?aO ?aB ?aS ?aL ?_; (case aP => exact rfl); (case aF => exact fun _ _ => trivial); (case aO => exact R_iterAt HO.out HIT.out (pos + 1)); (case aB => exact (Lib.below_iterAt HW.out HSZ.out a0 (pos + 1))); (case aS => exact (Lib.below_iterAt HW.out HSZ.out a0 (pos + 1)).size); (case aL => have := HL.out; omega); intro v1 wA ho1 hb1 hg1 hat1; have HO1 := Aside0.mk ho1; have HW1 := Aside0.mk hb1; have HIT1 := Lib.hid (iter_grown (R_iterAt HO.out HIT.out (pos + 1)) hg1 (Lib.iterAt_heap _ _ a0 pos (pos + 1) HIT.out)); clear ho1 hb1 hg1 hat1))
            go_roundw
            case rel => exact ⟨pos + 1, _, _, _, HS.out, HIT1.out, HO1, HW1, rfl, rfl⟩
            case measure => rw [iterPos_at HIT1.out, iterPos_at HIT.out]; omega
          · have HS : Hid (DesAt a0 R (pos + 1) (out ++ [48]) 1 48) := Lib.hid (by have h := hst.step hp HE.out c5; rw [if_neg (show ¬ ((48 : Nat) : Int) = last from c1)] at h; exact h)
            have c3 : ((48 : Int) == last) = false := by rw [beq_eq_false_iff_ne]; exact c1
            clear hst c1 c5
            go_wp2_with (first | (at_builtin; refine Kd.R_append (Kd.int .u8) (w0 := w) w.heap.size rfl (.tmp 43) (.tmp 46) 38 5 (.int .u8 0) 1 rfl Try.underlying38 infoU8 rfl (by decide) (by omega) _ out 48 [.int .u8 48] (fun _ => True) (fun _ => False) rfl rfl ?aP (fun _ hk => hk.elim) ?aF ?aO ?aB ?aS ?aL ?_; (case aP => exact rfl); (case aF => exact fun _ _ => trivial); (case aO => exact R_iterAt HO.out HIT.out (pos + 1)); (case aB => exact (Lib.below_iterAt HW.out HSZ.out a0 (pos + 1))); (case aS => exact (Lib.below_iterAt HW.out HSZ.out a0 (pos + 1)).size); (case aL => have := HL.out; omega); intro v1 wA ho1 hb1 hg1 hat1; have HO1 := Aside0.mk ho1; have HW1 := Aside0.mk hb1; have HIT1 := Lib.hid (iter_grown (R_iterAt HO.out HIT.out (pos + 1)) hg1 (Lib.iterAt_heap _ _ a0 pos (pos + 1) HIT.out)); clear ho1 hb1 hg1 hat1))
            go_roundw
            case rel => exact ⟨pos + 1, _, _, _, HS.out, HIT1.out, HO1, HW1, rfl, rfl⟩
            case measure => rw [iterPos_at HIT1.out, iterPos_at HIT.out]; omega
      · have hnx := fun ty => next_bit_at (P := Try.prog) _ _ a0 pos ty hit hp (b := 49) (by rw [e]; rfl) (by omega)
        have HIT := Lib.hid hit
        have HE : Hid ((a0[pos]'hp).toNat = 49) := Lib.hid (by rw [e]; rfl)
        clear e hbit hit
        by_cases c5 : run = 5
        · subst c5
          by_cases c1 : 49 = last
          · have HS := Lib.hid (hst.stop hp HE.out c1)
            subst c1
            have hcv := own_string (P := Try.prog) Try.underlying38 Try.underlying5 Try.underlying9 (Kd.own_of_R (R_iterAt HO.out HIT.out (pos + 1)))
            clear hst
            go_wp2
            go_ret2
            exact ⟨by rw [HS.out]; rfl, (Lib.below_iterAt HW.out HSZ.out a0 (pos + 1))⟩
          · have HS := Lib.hid (hst.skip hp HE.out c1)
            have c3 : ((49 : Int) == last) = false := by rw [beq_eq_false_iff_ne]; exact c1
            clear hst c1
            go_wp2
            go_roundw
            case rel => exact ⟨pos + 1, _, _, _, HS.out, Lib.iterAt_heap _ _ a0 pos (pos + 1) HIT.out, ⟨R_iterAt HO.out HIT.out (pos + 1)⟩, ⟨(Lib.below_iterAt HW.out HSZ.out a0 (pos + 1))⟩, rfl, rfl⟩
            case measure => rw [iterPos_at (Lib.iterAt_heap _ _ a0 pos (pos + 1) HIT.out), iterPos_at HIT.out]; omega
        · have c4 : ((run : Int) == 5) = false := by rw [beq_eq_false_iff_ne]; exact c5
          by_cases c1 : 49 = last
          · have HS : Hid (DesAt a0 R (pos + 1) (out ++ [49]) (run + 1) 49) := Lib.hid (by have h := hst.step hp HE.out c5; rw [if_pos (show ((49 : Nat) : Int) = last from c1)] at h; exact h)
            subst c1
            clear hst c5
            go_wp2_with (first | (at_builtin; refine Kd.R_append (Kd.int .u8) (w0 := w) w.heap.size rfl (.tmp 43) (.tmp 46) 38 5 (.int .u8 0) 1 rfl Try.underlying38 infoU8 rfl (by decide) (by omega) _ out 49 [.int .u8 49] (fun _ => True) (fun _ => False) rfl rfl ?aP (fun _ hk => hk.elim) ?aF ?aO ?aB ?aS ?aL ?_; (case aP => exact rfl); (case aF => exact fun _ _ => trivial); (case aO => exact R_iterAt HO.out HIT.out (pos + 1)); (case aB => exact (Lib.below_iterAt HW.out HSZ.out a0 (pos + 1))); (case aS => exact (Lib.below_iterAt HW.out HSZ.out a0 (pos + 1)).size); (case aL => have := HL.out; omega); intro v1 wA ho1 hb1 hg1 hat1; have HO1 := Aside0.mk ho1; have HW1 := Aside0.mk hb1; have HIT1 := Lib.hid (iter_grown (R_iterAt HO.out HIT.out (pos + 1)) hg1 (Lib.iterAt_heap _ _ a0 pos (pos + 1) HIT.out)); clear ho1 hb1 hg1 hat1))
            go_roundw
            case rel => exact ⟨pos + 1, _, _, _, HS.out, HIT1.out, HO1, HW1, rfl, rfl⟩
            case measure => rw [iterPos_at HIT1.out, iterPos_at HIT.out]; omega
          · have HS : Hid (DesAt a0 R (pos + 1) (out ++ [49]) 1 49) := Lib.hid (by have h := hst.step hp HE.out c5; rw [if_neg (show ¬ ((49 : Nat) : Int) = last from c1)] at h; exact h)
            have c3 : ((49 : Int) == last) = false := by rw [beq_eq_false_iff_ne]; exact c1
            clear hst c1 c5
            go_wp2_with (first | (at_builtin; refine Kd.R_append (Kd.int .u8) (w0 := w) w.heap.size rfl (.tmp 43) (.tmp 46) 38 5 (.int .u8 0) 1 rfl Try.underlying38 infoU8 rfl (by decide) (by omega) _ out 49 [.int .u8 49] (fun _ => True) (fun _ => False) rfl rfl ?aP (fun _ hk => hk.elim) ?aF ?aO ?aB ?aS ?aL ?_; (case aP => exact rfl); (case aF => exact fun _ _ => trivial); (case aO => exact R_iterAt HO.out HIT.out (pos + 1)); (case aB => exact (Lib.below_iterAt HW.out HSZ.out a0 (pos + 1))); (case aS => exact (Lib.below_iterAt HW.out HSZ.out a0 (pos + 1)).size); (case aL => have := HL.out; omega); intro v1 wA ho1 hb1 hg1 hat1; have HO1 := Aside0.mk ho1; have HW1 := Aside0.mk hb1; have HIT1 := Lib.hid (iter_grown (R_iterAt HO.out HIT.out (pos + 1)) hg1 (Lib.iterAt_heap _ _ a0 pos (pos + 1) HIT.out)); clear ho1 hb1 hg1 hat1))
            go_roundw
            case rel => exact ⟨pos + 1, _, _, _, HS.out, HIT1.out, HO1, HW1, rfl, rfl⟩
            case measure => rw [iterPos_at HIT1.out, iterPos_at HIT.out]; omega
    · have hnx := fun ty => Lib.run_next_end_at (P := Try.prog) _ _ a0 pos ty hit hp
      have hcv := own_string (P := Try.prog) Try.underlying38 Try.underlying5 Try.underlying9 (Kd.own_of_R HO.out)
      have HS := Lib.hid (hst.over hp)
      clear hst
      go_wp2
      go_ret2
      exact ⟨by rw [HS.out]; rfl, HW.out⟩
theorem impl_Destuff.calls (a0 : ByteArray) (r1 : ByteArray) (r2 : Int) (w : World) (h : impl_Destuff.f a0 = some (r1, r2)) :
    Calls Try.prog 18 #[.string a0] w fun e w' => e = .returned (.tuple #[.string r1, .int .i64 r2]) ∧ Below w.heap.size w w' := by
  have h' : destuffV a0 = (r1, r2) := Option.some.inj h
  unfold destuffV at h'
  by_cases c : a0.size ≤ 4000 ∧ isBits a0 = true
  · rw [if_pos c] at h'
    simp only [Prod.mk.injEq] at h'
    obtain ⟨rfl, rfl⟩ := h'
    exact impl_Destuff.yes a0 _ w c.1 c.2 rfl
  · rw [if_neg c] at h'
    simp only [Prod.mk.injEq] at h'
    obtain ⟨rfl, rfl⟩ := h'
    clear h
    have hbt : Hid (impl_bitText.f a0 4000 = some false) := by
      refine Lib.hid ?_
      unfold impl_bitText.f
      congr 1
      rw [Bool.and_eq_false_iff]
      by_cases h : isBits a0 = true
      · exact .inl (decide_eq_false fun h2 => c ⟨by omega, h⟩)
      · exact .inr (by simpa using h)
    clear c
    go_enter Try.func18, Try.ntmps18
    go_wp2_with (go_at_call 47; refine (impl_bitText.calls _ _ false _ hbt.out).mono ?_; rintro e w1 ⟨rfl, hb1⟩)
    go_ret2
    exact ⟨rfl, hb1⟩

end Go.Proofs.Ytogedkkdhonmlaa.P
