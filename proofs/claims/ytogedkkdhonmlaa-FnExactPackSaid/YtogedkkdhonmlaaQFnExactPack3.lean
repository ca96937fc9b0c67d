import Derived.Test.YtogedkkdhonmlaaQFnExactPack0
import Derived.Test.YtogedkkdhonmlaaQFnExactPack2
import Derived.Test.YtogedkkdhonmlaaQFnExactPack1
import Derived.Laws.BitsAllLaws

namespace Go.Proofs.Ytogedkkdhonmlaa.P
open Go.RowKit Go.Proofs.YtogedkkdhonmlaaW.PrintWords Go.Proofs.YtogedkkdhonmlaaW.PrintLast Go.Proofs.YtogedkkdhonmlaaW.PrintMore
attribute [local go_sem] max2_int min2_int max_two min_two max_three min_three max_four min_four
set_option linter.unusedVariables false
set_option linter.unusedSimpArgs false

/-! ### laws_toUint64S: function 54 -/
def laws_toUint64S.l0 : Nat → List Int → List Int → Int → Option (List Int)
  | 0, _, _, _ => none
  | k + 1, x0, x3, x4 => if x4 < (x0.length : Int) then (if 0 ≤ x4 then (if x4 < (x3.length : Int) then (laws_toUint64S.l0 k x0 (x3.set (x4 : Int).toNat (rd x0 x4)) (wrap64 (x4 + 1))) else (none)) else (none)) else (some x3)
def laws_toUint64S.f (k : Nat) (l0 : List Int) : Option (List Int) := if 0 ≤ (l0.length : Int) then (if ((l0.length : Int) : Int).toNat ≤ 35184372088832 then (laws_toUint64S.l0 k l0 (List.replicate ((l0.length : Int) : Int).toNat 0) 0) else (none)) else (none)
theorem laws_toUint64S.mono_l : ∀ k, (∀ y0 y1 y2, LeO (laws_toUint64S.l0 k y0 y1 y2) (laws_toUint64S.l0 (k + 1) y0 y1 y2))
  | 0 => fun _ _ _ r h => by simp [laws_toUint64S.l0] at h
  | k + 1 => by
    have ih0 := laws_toUint64S.mono_l k
    · intro y0 y1 y2
      unfold laws_toUint64S.l0
      repeat' first
      | (with_reducible exact ih0 _ _ _)
      | (with_reducible exact LeO.refl _)
      | (with_reducible exact LeO.none _)
      | (with_reducible refine LeO.ite ?_ ?_)
      | (with_reducible refine LeO.bind ?_ (fun _ => ?_))
      | exact ih0 _ _ _
      | exact LeO.none _
      | refine LeO.ite ?_ ?_
      | refine LeO.bind ?_ (fun _ => ?_)
theorem laws_toUint64S.mono : ∀ a0 k, LeO (laws_toUint64S.f k a0) (laws_toUint64S.f (k + 1) a0) := by
  intro a0 k
  have ih0 := laws_toUint64S.mono_l k
  unfold laws_toUint64S.f
  repeat' first
      | (with_reducible exact ih0 _ _ _)
      | (with_reducible exact LeO.refl _)
      | (with_reducible exact LeO.none _)
      | (with_reducible refine LeO.ite ?_ ?_)
      | (with_reducible refine LeO.bind ?_ (fun _ => ?_))
      | exact ih0 _ _ _
      | exact LeO.none _
      | refine LeO.ite ?_ ?_
      | refine LeO.bind ?_ (fun _ => ?_)
set_option maxHeartbeats 8000000 in
set_option maxRecDepth 100000 in
theorem laws_toUint64S.calls (k : Nat) (A0 : Option Addr) (c0 : Nat) (l0 : List Int) (r : List Int) (w : World) (hr0 : Kd.C (Kd.int .u64) w A0 l0.length l0) (hc0 : l0.length ≤ c0) (h : laws_toUint64S.f k l0 = some r) :
    Calls Try.prog 54 #[.slice A0 l0.length c0] w fun e w' => ∃ v0_ : Value, e = .returned (v0_) ∧ Kd.R (Kd.int .u64) 71 w' w.heap.size (fun _ => True) v0_ r ∧ Below w.heap.size w w' := by
  have HR0 := Aside0.mk hr0
  have HC0 := Aside0.mk hc0
  clear hr0 hc0
  have HB := Aside0.mk (Below.refl w.heap.size w)
  have H : (if 0 ≤ (l0.length : Int) then (if ((l0.length : Int) : Int).toNat ≤ 35184372088832 then (laws_toUint64S.l0 k l0 (List.replicate ((l0.length : Int) : Int).toNat 0) 0) else (none)) else (none)) = some r := h
  clear h
  by_cases c2 : 0 ≤ (l0.length : Int)
  · rw [if_pos c2] at H
    have c2b0 := eq_true c2
    have c2b1 : decide (0 ≤ (l0.length : Int)) = true := decide_eq_true c2
    clear c2
    by_cases c3 : ((l0.length : Int) : Int).toNat ≤ 35184372088832
    · rw [if_pos c3] at H
      have c3b0 := eq_true c3
      have c3b1 : decide (((l0.length : Int) : Int).toNat ≤ 35184372088832) = true := decide_eq_true c3
      clear c3
      obtain ⟨y158, hy158⟩ : ∃ y_ : List Int, y_ = (List.replicate ((l0.length : Int) : Int).toNat 0) := ⟨_, rfl⟩
      replace H : (laws_toUint64S.l0 k l0 y158 0) = some r := by first | (rw [hy158]; with_reducible exact H) | (have H2_ := (Option.bind_some _ _).symm.trans H; rw [hy158]; with_reducible exact H2_) | (have H2_ := (Option.bind_some _ _).symm.trans H; with_reducible exact H2_) | with_reducible exact H | (rw [hy158]; exact H) | exact H
      have Ny158 := Aside0.mk hy158
      clear hy158
      have H' := Aside0.mk H
      clear H
      go_enter Try.func54, Try.ntmps54
      go_wp2_with (first | ((with_reducible refine gate_dst (N := 7) rfl ?_); refine Kd.R_make (Kd.int .u64) _ 71 rfl (N := 7) rfl 28 _ _ rfl (l0.length : Int) rfl rfl Try.underlying28 (.int .u64 0) 8 info71 rfl (by decide) (by omega) 0 (ok := fun _ => True) (okp := fun _ => True) rfl (fun _ hk => hk) trivial (of_decide_eq_true (by first | (with_reducible assumption) | assumption)) (Nat.le_trans (Nat.mul_le_mul_right _ (of_decide_eq_true (by first | (with_reducible assumption) | assumption) : (l0.length : Int).toNat ≤ 35184372088832)) (by omega)) (Below.refl _ _) (Nat.le_refl _) ?_; intro v159 w4 ho5 hb hg_ hnew_; clear hg_ hnew_; (first | rw [← Ny158.out] at ho5 | (simp only [Int.reduceToNat] at ho5; rw [← Ny158.out] at ho5)); have n0_ := Aside0.mk (Kd.R_lower ho5 (below_size (by repeat (first | (with_reducible first | exact HB.out | apply below_alloc | apply pw_below_drewN | apply below_drew1) | exact HB.out)))); have n1_ := Aside0.mk (below_step (by repeat (first | (with_reducible first | exact HB.out | apply below_alloc | apply pw_below_drewN | apply below_drew1) | exact HB.out)) hb); clear HB; have HO160 := n0_; have HB := n1_; clear n0_ n1_; clear hb ho5))
      go_loopg [4] k (fun kq v4 w' => ∃ (x3_1 : List Int) (x4_1 : Int), v4 = .int .i64 x4_1 ∧ Aside0 (laws_toUint64S.l0 kq l0 x3_1 x4_1 = some r) ∧ Aside0 (kq ≤ k) ∧ Aside0 (Kd.R (Kd.int .u64) 71 w' w.heap.size (fun _ => True) v159 x3_1) ∧ Aside0 (Below w.heap.size w w'))
      case atStart => exact ⟨(y158), (0), (by first | rfl | (simp; done) | (simp [*]; done)), H', ⟨Nat.le_refl _⟩, ⟨by (with_reducible repeat (first | apply Kd.R_alloc | apply Kd.R_drewN | apply Kd.R_drew)); exact HO160.out⟩, ⟨by repeat (first | (with_reducible first | exact HB.out | apply below_alloc | apply pw_below_drewN | apply below_drew1) | exact HB.out)⟩⟩
      case round =>
        clear H'
        try clear c2
        try clear c2b0
        try clear c2b1
        try clear p2
        try clear c3
        try clear c3b0
        try clear c3b1
        try clear c5
        obtain ⟨x3_1, x4_1, rfl, HA, HK1, HO_3, HB⟩ := hrel
        cases gk with
        | zero => exact absurd HA.out (by simp [laws_toUint64S.l0])
        | succ k1 =>
          have H := HA.out
          clear HA
          simp only [laws_toUint64S.l0] at H
          by_cases c6 : x4_1 < (l0.length : Int)
          · rw [if_pos c6] at H
            have c6b0 : decide (x4_1 < (l0.length : Int)) = true := decide_eq_true c6
            clear c6
            by_cases c7 : 0 ≤ x4_1
            · rw [if_pos c7] at H
              have c7b0 : decide (0 ≤ x4_1) = true := decide_eq_true c7
              clear c7
              by_cases c8 : x4_1 < (x3_1.length : Int)
              · rw [if_pos c8] at H
                have c8b0 : decide (x4_1 < (x3_1.length : Int)) = true := decide_eq_true c8
                clear c8
                obtain ⟨y162, hy162⟩ : ∃ y_ : List Int, y_ = (x3_1.set (x4_1 : Int).toNat (rd l0 x4_1)) := ⟨_, rfl⟩
                replace H : (laws_toUint64S.l0 k1 l0 y162 (wrap64 (x4_1 + 1))) = some r := by first | (rw [hy162]; with_reducible exact H) | (have H2_ := (Option.bind_some _ _).symm.trans H; rw [hy162]; with_reducible exact H2_) | (have H2_ := (Option.bind_some _ _).symm.trans H; with_reducible exact H2_) | with_reducible exact H | (rw [hy162]; exact H) | exact H
                have Ny162 := Aside0.mk hy162
                clear hy162
                have H' := Aside0.mk H
                clear H
                have p161 : 0 ≤ (x4_1 : Int) := of_decide_eq_true (by first | (with_reducible assumption) | assumption)
                have q161 : x4_1 < (l0.length : Int) := of_decide_eq_true (by first | (with_reducible assumption) | assumption)
                obtain ⟨ad161, e161, hx161_0⟩ := Kd.at_int HR0.out x4_1 p161 q161
                cases e161
                replace hx161_0 := (HB.out.cell (World.block_lt_of_cell? w _ hx161_0)).trans hx161_0
                replace p161 := eq_true p161
                replace q161 := eq_true q161
                have p9 : 0 ≤ (x4_1 : Int) := of_decide_eq_true (by first | (with_reducible assumption) | assumption)
                have q9 : (x4_1 : Int) < ((x3_1.length : Int) : Int) := of_decide_eq_true (by first | (with_reducible assumption) | assumption)
                obtain ⟨go9, co9, eo9, gb9, gl9, cl9, HG9⟩ := Kd.R_form HO_3.out (by omega)
                (first | cases eo9 | (injection eo9 with ea_ en_ ec_; (first | subst ea_ | (injection ea_ with ea_; subst ea_)); subst ec_; clear en_))
                have GB9 := Aside0.mk gb9
                have GG9 := Aside0.mk HG9
                clear gb9 gl9 HG9
                obtain ⟨hx9_0, hf9_0⟩ := Kd.R_celln 0 HO_3.out (x4_1 : Int) p9 q9
                replace p9 := eq_true p9
                replace q9 := eq_true q9
                have HP10 := Kd.R_putg HO_3.out (x4_1 : Int) (rd l0 x4_1)
                go_wp2_with (first | ((with_reducible refine gate_store (t := 71) (p := 20) rfl ?_); refine store_event (t := 71) (p := 20) (v := ?vo_w11) (w1 := (wr.setCell ⟨go9, (x4_1 : Int).toNat, none⟩ (.int .u64 (rd l0 x4_1)))) ?hg ?ho ?hn ?hr ?_; (case ho => rfl); (case hg => rfl); (case hn => rfl); (case hr => first | (go_simp; done) | (go_simp; rfl)); intro w11 hw; have hg : wr.grownBy w11 (some go9) := (by rw [hw]; exact HP10.2); have hp_ : Kd.R (Kd.int .u64) 71 w11 w.heap.size (fun _ => True) (.slice (some ⟨go9, 0, none⟩) x3_1.length co9) y162 := (by rw [hw, Ny162.out]; exact HP10.1); clear HP10; have n0_ := Aside0.mk (hp_); have n1_ := Aside0.mk ((by rw [hw]; exact below_set (HB.out) GB9.out : Below w.heap.size w w11)); clear HO_3; clear HB; have HO_3 := n0_; have HB := n1_; clear n0_ n1_; clear hg hw hp_))
                go_roundg k1
                case measure => have := HK1.out; omega
                case rel => exact ⟨(y162), (wrap64 (x4_1 + 1)), (by first | rfl | (simp; done) | (simp [*]; done)), H', ⟨by have := HK1.out; omega⟩, ⟨by (with_reducible repeat (first | apply Kd.R_alloc | apply Kd.R_drewN | apply Kd.R_drew)); exact HO_3.out⟩, ⟨by repeat (first | (with_reducible first | exact HB.out | apply below_alloc | apply pw_below_drewN | apply below_drew1) | exact HB.out)⟩⟩
              · rw [if_neg c8] at H
                exact absurd H (by simp)
            · rw [if_neg c7] at H
              exact absurd H (by simp)
          · rw [if_neg c6] at H
            have c6b0 : decide (x4_1 < (l0.length : Int)) = false := decide_eq_false c6
            clear c6
            obtain rfl := Option.some.inj H
            go_wp2
            go_ret
            exact ⟨_, by first | rfl | (simp [errW_none, errW_some] <;> rfl) | (simp [*, errW_none, errW_some] <;> rfl), by (with_reducible repeat (first | apply Kd.R_alloc | apply Kd.R_drewN | apply Kd.R_drew)); exact HO_3.out, by repeat (first | (with_reducible first | exact HB.out | apply below_alloc | apply pw_below_drewN | apply below_drew1) | exact HB.out)⟩
    · rw [if_neg c3] at H
      exact absurd H (by simp)
  · rw [if_neg c2] at H
    exact absurd H (by simp)

end Go.Proofs.Ytogedkkdhonmlaa.P

namespace Go.Proofs.Ytogedkkdhonmlaa.P
open Go Go.RowKit Go.Proofs.YtogedkkdhonmlaaW.PrintWords
set_option linter.unusedVariables false
theorem szUint64S_eq (l : List Int) (a : Int) (h : l.length ≤ maxLen) (h0 : 0 ≤ a) (h1 : a ≤ 1048576) : laws_szUint64S.f l a = some (if a < l.length then -1 else a - l.length) := by
  unfold laws_szUint64S.f
  simp only [maxLen] at h
  have e : wrap64 (a - (l.length : Int)) = a - l.length := by unfold wrap64; omega
  rw [e]
  by_cases c : a < (l.length : Int)
  · rw [if_pos (by omega), if_pos c]
  · rw [if_neg (by omega), if_neg c]

theorem toUint64S_ev (l : List Int) (h : l.length ≤ 10000000) : Ev (fun k => laws_toUint64S.f k l) l := by
  have loop : ∀ (d i : Nat) (x : List Int), i + d = l.length → SameTo x l i → Ev (fun k => laws_toUint64S.l0 k l x (i : Int)) l := by
    intro d
    induction d with
    | zero =>
      intro i x hi hx
      refine Ev.step (f := fun _ => some l) (fun k => ?_) (Ev.now _)
      simp only [laws_toUint64S.l0]
      rw [if_neg (by omega), hx.all (by omega)]
    | succ d ih =>
      intro i x hi hx
      refine Ev.step (f := fun k => laws_toUint64S.l0 k l (x.set i (rd l (i : Int))) ((i + 1 : Nat) : Int)) (fun k => ?_) (ih (i + 1) _ (by omega) (hx.next (by omega)))
      have hl := hx.1
      simp only [laws_toUint64S.l0]
      rw [if_pos (by omega), if_pos (by omega), if_pos (by omega), w64 (by omega) (by omega)]
      rfl
  refine Ev.congr (fun k => ?_) (loop l.length 0 (List.replicate l.length 0) (by omega) (SameTo.zero (by simp)))
  unfold laws_toUint64S.f
  rw [if_pos (by omega), if_pos (by omega)]
  rfl

theorem eqUint64S_ev (l : List Int) (h : l.length ≤ 10000000) : Ev (fun k => laws_eqUint64S.f k l l) true := by
  have loop : ∀ (d i : Nat), i + d = l.length → Ev (fun k => laws_eqUint64S.l0 k l l (i : Int)) true := by
    intro d
    induction d with
    | zero =>
      intro i hi
      refine Ev.step (f := fun _ => some true) (fun k => ?_) (Ev.now _)
      simp only [laws_eqUint64S.l0]
      rw [if_neg (by omega)]
    | succ d ih =>
      intro i hi
      refine Ev.step (f := fun k => laws_eqUint64S.l0 k l l ((i + 1 : Nat) : Int)) (fun k => ?_) (ih (i + 1) (by omega))
      simp only [laws_eqUint64S.l0]
      rw [if_pos (by omega), if_pos (by omega), if_pos (by omega), if_pos trivial, w64 (by omega) (by omega)]
      rfl
  refine Ev.congr (fun k => ?_) (loop l.length 0 (by omega))
  unfold laws_eqUint64S.f
  rw [if_pos rfl]
  rfl

end Go.Proofs.Ytogedkkdhonmlaa.P

namespace Go.Proofs.Ytogedkkdhonmlaa.P
open Go Go.RowKit Go.Proofs.YtogedkkdhonmlaaW.PrintWords
set_option linter.unusedVariables false
/-! ### Letters of a text; the reference's look at them -/
theorem bt_eq (s : ByteArray) (i : Nat) (h : i < s.size) : bt s (i : Int) = ((s[i]'h).toNat : Int) := by
  unfold bt; rw [dif_pos (show (i : Int).toNat < s.size from h)]; rfl
theorem bytesOf_get (s : ByteArray) (i : Nat) (h : i < (bytesOf s).length) : (bytesOf s)[i]'h = bt s (i : Int) := by
  have hs : i < s.size := by rw [bytesOf_length] at h; exact h
  have h2 : (bytesOf s)[i]? = some (bt s (i : Int)) := by
    unfold bytesOf
    rw [List.getElem?_map, Array.getElem?_toList, Array.getElem?_eq_getElem (show i < s.data.size from hs), bt_eq s i hs]
    rfl
  rw [List.getElem?_eq_getElem h] at h2
  exact Option.some.inj h2
theorem okBits_ev (s : ByteArray) (lim : Nat) (hlim : lim < 100000000) :
    Ev (fun k => spec_l1okBits.f k s (lim : Int)) (decide (s.size ≤ lim) && isBits s) := by
  have loop : s.size ≤ lim → ∀ (d i : Nat), i + d = s.size → BitsTo s i → Ev (fun k => spec_l1okBits.l0 k s (i : Int)) (isBits s) := by
    intro hl d
    induction d with
    | zero =>
      intro i hi hb
      refine Ev.step (f := fun _ => some (isBits s)) (fun k => ?_) (Ev.now _)
      simp only [spec_l1okBits.l0]
      rw [if_neg (by omega), isBits_of s hb (by omega)]
    | succ d ih =>
      intro i hi hb
      have hp : i < s.size := by omega
      cases hbit : isBit (s[i]'hp) with
      | true =>
        refine Ev.step (f := fun k => spec_l1okBits.l0 k s ((i + 1 : Nat) : Int)) (fun k => ?_) (ih (i + 1) (by omega) (bitsTo_succ hb hp hbit))
        simp only [spec_l1okBits.l0]
        rw [if_pos (by omega), if_pos (by omega), bt_eq s i hp, w64 (by omega) (by omega)]
        rcases isBit_cases hbit with e | e <;> rw [e]
        · rw [if_pos (by decide)]; rfl
        · rw [if_neg (by decide), if_pos (by decide)]; rfl
      | false =>
        refine Ev.step (f := fun _ => some (isBits s)) (fun k => ?_) (Ev.now _)
        simp only [spec_l1okBits.l0]
        obtain ⟨h1, h2⟩ := not_bit hbit
        rw [if_pos (by omega), if_pos (by omega), bt_eq s i hp, if_neg (by omega), if_neg (by omega), isBits_not s hp hbit]
  by_cases c : s.size ≤ lim
  · rw [decide_eq_true c, Bool.true_and]
    refine Ev.congr (fun k => ?_) (loop c s.size 0 (by omega) (bitsTo_zero s))
    unfold spec_l1okBits.f
    rw [if_neg (by omega)]; rfl
  · rw [decide_eq_false c, Bool.false_and]
    refine Ev.congr (f := fun _ => some false) (fun k => ?_) (Ev.now _)
    unfold spec_l1okBits.f
    rw [if_pos (by omega)]
end Go.Proofs.Ytogedkkdhonmlaa.P

/- A text of bits in words: what the program's packer writes is what the reference counts. -/
namespace Go.Proofs.Ytogedkkdhonmlaa.P
open Go Go.RowKit Go.Proofs.YtogedkkdhonmlaaW.PrintWords
set_option linter.unusedVariables false
def bitAt (s : ByteArray) (i : Nat) : Nat := if i < s.size then (if rd (bytesOf s) (i : Int) = 49 then 1 else 0) else 0
theorem bitAt_le (s : ByteArray) (i : Nat) : bitAt s i ≤ 1 := by unfold bitAt; split <;> (try split) <;> omega
def wordTo (s : ByteArray) (k : Nat) : Nat → Nat
  | 0 => 0
  | j + 1 => 2 * wordTo s k j + bitAt s (64 * k + j)
theorem wordTo_lt (s : ByteArray) (k j : Nat) : wordTo s k j < 2 ^ j := by
  induction j with
  | zero => simp [wordTo]
  | succ j ih =>
    have := bitAt_le s (64 * k + j)
    rw [wordTo, Nat.pow_succ]
    omega
theorem wordTo_end (s : ByteArray) (k j : Nat) (h : s.size ≤ 64 * k + j) : ∀ d, wordTo s k (j + d) = wordTo s k j * 2 ^ d := by
  intro d
  induction d with
  | zero => simp
  | succ d ih =>
    have : bitAt s (64 * k + (j + d)) = 0 := by unfold bitAt; rw [if_neg (by omega)]
    rw [← Nat.add_assoc, wordTo, ih, this, Nat.pow_succ]
    rw [Nat.add_zero, Nat.mul_left_comm, Nat.mul_comm 2]
def wordN (s : ByteArray) (n k : Nat) : Nat := wordTo s k (min 64 (n - 64 * k)) * 2 ^ (64 - min 64 (n - 64 * k))
theorem bit_at {s : ByteArray} (hB : isBits s = true) {n : Nat} (hn : n < s.size) : rd (bytesOf s) (n : Int) - 48 = (bitAt s n : Int) := by
  have h := isBit_cases (isBits_at hB hn)
  have e := rd_bytes8 s n hn
  unfold bitAt
  rw [if_pos hn]
  rcases h with h | h
  · rw [e, h]; rfl
  · rw [e, h]; rfl
theorem packTo_at (s : ByteArray) (hB : isBits s = true) : ∀ n, n ≤ s.size → ∀ k, k < (n + 63) / 64 → rd (packTo s n) (k : Int) = (wordN s n k : Int) := by
  intro n
  induction n with
  | zero => intro _ k hk; omega
  | succ n ih =>
    intro hn k hk
    have ih := ih (by omega)
    have hlen := packTo_length s n
    have hrow : ∀ t, t < n / 64 + 1 → rd (packRow (packTo s n) n) (t : Int) = (wordN s n t : Int) := by
      intro t ht
      unfold packRow
      by_cases c : n % 64 = 0
      · rw [if_pos c, rd_snoc]
        by_cases c1 : t < (packTo s n).length
        · rw [if_pos c1]; exact ih t (by omega)
        · rw [if_neg c1, if_pos (by omega)]
          unfold wordN
          rw [show n - 64 * t = 0 by omega, show min 64 0 = 0 from rfl, wordTo, Nat.zero_mul]
          rfl
      · rw [if_neg c]; exact ih t (by omega)
    have hrl : (packRow (packTo s n) n).length = n / 64 + 1 := by
      have := packBit_length (packTo s n) n 0
      have h2 := packTo_length s (n + 1)
      rw [packTo, packBit_length] at h2
      rw [h2]; omega
    rw [packTo, packBit, rd_set _ _ _ _ (by omega)]
    by_cases c : k = n / 64
    · rw [if_pos c, hrow _ (by omega), bit_at hB (by omega)]
      subst c
      obtain ⟨j, hj⟩ : ∃ j, j = n % 64 := ⟨_, rfl⟩
      obtain ⟨q, hq⟩ : ∃ q, q = n / 64 := ⟨_, rfl⟩
      have hn2 : n = 64 * q + j := by omega
      have hj64 : j < 64 := by omega
      unfold wordN
      rw [← hj, ← hq, show min 64 (n - 64 * q) = j by omega, show min 64 (n + 1 - 64 * q) = j + 1 by omega, wordTo, ← hn2]
      have hw := wordTo_lt s q j
      have hb := bitAt_le s n
      have hp : 2 ^ (64 - j) = 2 * 2 ^ (63 - j) := by rw [show 64 - j = (63 - j) + 1 by omega, Nat.pow_succ]; omega
      have hbl : bitAt s n * 2 ^ (63 - j) < 2 ^ (64 - j) := by
        have : bitAt s n * 2 ^ (63 - j) ≤ 1 * 2 ^ (63 - j) := Nat.mul_le_mul_right _ hb
        have h0 : 0 < 2 ^ (63 - j) := Nat.pow_pos (by omega)
        omega
      have hle : (2 : Nat) ^ (64 - j) ≤ 2 ^ 64 := Nat.pow_le_pow_right (by omega) (by omega)
      have hwl : wordTo s q j * 2 ^ (64 - j) < 18446744073709551616 := by
        have h1 : wordTo s q j * 2 ^ (64 - j) < 2 ^ j * 2 ^ (64 - j) := Nat.mul_lt_mul_of_pos_right hw (Nat.pow_pos (by omega))
        rw [← Nat.pow_add, show j + (64 - j) = 64 by omega] at h1
        exact h1
      have hwr : IntKind.u64.wrap ((bitAt s n : Int) * 2 ^ (63 - j)) = ((bitAt s n * 2 ^ (63 - j) : Nat) : Int) := by
        rw [show (bitAt s n : Int) * 2 ^ (63 - j) = ((bitAt s n * 2 ^ (63 - j) : Nat) : Int) by rw [Int.natCast_mul, Int.natCast_pow]; rfl, IntKind.wrap_u64]
        have : bitAt s n * 2 ^ (63 - j) < 18446744073709551616 := Nat.lt_of_lt_of_le hbl hle
        omega
      rw [hwr, u64_or_nat _ _ hwl (Nat.lt_of_lt_of_le hbl hle), Nat.mul_comm (wordTo s q j), ← Nat.two_pow_add_eq_or_of_lt hbl, show 64 - (j + 1) = 63 - j by omega, hp]
      congr 1
      rw [Nat.add_mul, Nat.mul_comm (2 * 2 ^ (63 - j)), ← Nat.mul_assoc, Nat.mul_comm (wordTo s q j) 2]
    · rw [if_neg c, hrow k (by omega)]
      unfold wordN
      rw [show min 64 (n - 64 * k) = 64 by omega, show min 64 (n + 1 - 64 * k) = 64 by omega]
def specW (s : ByteArray) : Nat → List Int
  | 0 => []
  | k + 1 => specW s k ++ [(wordTo s k 64 : Int)]
theorem specW_length (s : ByteArray) (k : Nat) : (specW s k).length = k := by
  induction k with
  | zero => rfl
  | succ k ih => rw [specW, List.length_append, ih]; rfl
theorem specW_at (s : ByteArray) (k : Nat) : ∀ t, t < k → rd (specW s k) (t : Int) = (wordTo s t 64 : Int) := by
  induction k with
  | zero => intro t ht; omega
  | succ k ih =>
    intro t ht
    rw [specW, rd_snoc, specW_length]
    by_cases c : t < k
    · rw [if_pos c]; exact ih t c
    · rw [if_neg c, if_pos (by omega), show t = k by omega]
theorem rd_ext {a b : List Int} (hl : a.length = b.length) (h : ∀ t : Nat, t < a.length → rd a (t : Int) = rd b (t : Int)) : a = b := by
  refine List.ext_getElem? fun t => ?_
  by_cases c : t < a.length
  · rw [rd_get a t c, rd_get b t (by omega), h t c]
  · rw [List.getElem?_eq_none (by omega), List.getElem?_eq_none (by omega)]
theorem pack_spec (s : ByteArray) (hB : isBits s = true) : packTo s s.size = specW s ((s.size + 63) / 64) := by
  refine rd_ext (by rw [packTo_length, specW_length]) fun t ht => ?_
  rw [packTo_length] at ht
  rw [packTo_at s hB s.size (Nat.le_refl _) t ht, specW_at s _ t ht]
  unfold wordN
  have h := wordTo_end s t (min 64 (s.size - 64 * t)) 
  by_cases c : 64 ≤ s.size - 64 * t
  · rw [show min 64 (s.size - 64 * t) = 64 by omega]; simp
  · have h2 := h (by omega) (64 - min 64 (s.size - 64 * t))
    rw [show min 64 (s.size - 64 * t) + (64 - min 64 (s.size - 64 * t)) = 64 by omega] at h2
    rw [h2]
end Go.Proofs.Ytogedkkdhonmlaa.P

/- Packing: the program's words are the reference's, for every text, and its answer is its own. -/
namespace Go.Proofs.Ytogedkkdhonmlaa.Pure
open Go Go.RowKit Go.Proofs.Ytogedkkdhonmlaa.P Go.Proofs.YtogedkkdhonmlaaW.PrintWords Go.Proofs.YtogedkkdhonmlaaW.PrintLast
set_option linter.unusedVariables false
theorem u64_small {x : Int} (h0 : 0 ≤ x) (h1 : x < 18446744073709551616) : IntKind.u64.wrap x = x := by rw [IntKind.wrap_u64]; omega
theorem spec_word (s : ByteArray) (hs : s.size ≤ 4000) (hB : isBits s = true) (x : List Int) (k : Nat) (hk : k < 100) (hx : x.length ≤ 100) (V : Int × List Int) (hE : Ev (fun m => spec_Pack.l0 m s (x ++ [(wordTo s k 64 : Int)]) ((k + 1 : Nat) : Int)) V) :
    ∀ (d j : Nat), j + d = 64 → Ev (fun m => spec_Pack.l1 m s x (k : Int) (wordTo s k j : Int) (j : Int)) V := by
  intro d
  induction d with
  | zero =>
    intro j hj
    obtain rfl : j = 64 := by omega
    refine Ev.step (f := fun m => spec_Pack.l0 m s (x ++ [(wordTo s k 64 : Int)]) ((k + 1 : Nat) : Int)) (fun m => ?_) hE
    simp only [spec_Pack.l1]
    rw [if_neg (by omega), if_pos (by omega), w64 (by omega) (by omega)]
    rfl
  | succ d ih =>
    intro j hj
    have hw := wordTo_lt s k j
    have hp : (2 : Nat) ^ j ≤ 2 ^ 63 := Nat.pow_le_pow_right (by omega) (by omega)
    have hw2 : wordTo s k j < 9223372036854775808 := Nat.lt_of_lt_of_le hw hp
    refine Ev.step (f := fun m => spec_Pack.l1 m s x (k : Int) (wordTo s k (j + 1) : Int) ((j + 1 : Nat) : Int)) (fun m => ?_) (ih (j + 1) (by omega))
    have e1 : wrap64 ((j : Int) + 1) = ((j + 1 : Nat) : Int) := by rw [w64 (by omega) (by omega)]; rfl
    have e2 : wrap64 ((wrap64 (64 * (k : Int))) + (j : Int)) = ((64 * k + j : Nat) : Int) := by rw [w64 (x := 64 * (k : Int)) (by omega) (by omega), w64 (by omega) (by omega)]; omega
    have e3 : IntKind.u64.wrap (2 * (wordTo s k j : Int)) = ((2 * wordTo s k j : Nat) : Int) := by rw [u64_small (by omega) (by omega)]; omega
    simp only [spec_Pack.l1]
    rw [if_pos (by omega), e1, e2, e3]
    by_cases c : 64 * k + j < s.size
    · rw [if_pos (by omega), if_pos (by omega)]
      have hb : bt s ((64 * k + j : Nat) : Int) = rd (bytesOf s) ((64 * k + j : Nat) : Int) := by rw [bt_eq s _ c, rd_bytes8 s _ c]
      rw [hb]
      by_cases c1 : rd (bytesOf s) ((64 * k + j : Nat) : Int) = 49
      · rw [if_pos c1, u64_small (by omega) (by omega)]
        have : bitAt s (64 * k + j) = 1 := by unfold bitAt; rw [if_pos c, if_pos c1]
        rw [wordTo, this]
        rfl
      · rw [if_neg c1]
        have : bitAt s (64 * k + j) = 0 := by unfold bitAt; rw [if_pos c, if_neg c1]
        rw [wordTo, this]
        rfl
    · rw [if_neg (by omega)]
      have : bitAt s (64 * k + j) = 0 := by unfold bitAt; rw [if_neg c]
      rw [wordTo, this]
      rfl
theorem spec_words (s : ByteArray) (hs : s.size ≤ 4000) (hB : isBits s = true) : ∀ (d k : Nat), k + d = (s.size + 63) / 64 → Ev (fun m => spec_Pack.l0 m s (specW s k) (k : Int)) ((s.size : Int), specW s ((s.size + 63) / 64)) := by
  intro d
  induction d with
  | zero =>
    intro k hk
    refine Ev.step (f := fun _ => some ((s.size : Int), specW s ((s.size + 63) / 64))) (fun m => ?_) (Ev.now _)
    simp only [spec_Pack.l0]
    have hk2 : k = (s.size + 63) / 64 := by omega
    rw [w64 (x := 64 * (k : Int)) (by omega) (by omega), if_neg (by omega), hk2]
  | succ d ih =>
    intro k hk
    refine Ev.step (f := fun m => spec_Pack.l1 m s (specW s k) (k : Int) (wordTo s k 0 : Int) ((0 : Nat) : Int)) (fun m => ?_) (spec_word s hs hB (specW s k) k (by omega) (by rw [specW_length]; omega) _ (ih (k + 1) (by omega)) 64 0 (by omega))
    simp only [spec_Pack.l0]
    rw [w64 (x := 64 * (k : Int)) (by omega) (by omega), if_pos (by omega)]
    rfl
def packV (s : ByteArray) : Int × List Int := if s.size ≤ 4000 ∧ isBits s = true then ((s.size : Int), packTo s s.size) else (0, [])
theorem specPack_ev (s : ByteArray) : Ev (fun m => spec_Pack.f m s) (packV s) := by
  have hk := okBits_ev s 4000 (by omega)
  unfold spec_Pack.f packV
  by_cases c : s.size ≤ 4000 ∧ isBits s = true
  · rw [decide_eq_true c.1, c.2] at hk
    refine Ev.bind hk (ev_pos rfl ?_)
    rw [if_pos c, pack_spec s c.2]
    exact spec_words s c.1 c.2 ((s.size + 63) / 64) 0 (by omega)
  · have : (decide (s.size ≤ 4000) && isBits s) = false := by
      rw [← Bool.not_eq_true, Bool.and_eq_true, decide_eq_true_eq]
      exact c
    rw [this] at hk
    refine Ev.bind hk (ev_neg (by decide) ?_)
    rw [if_neg c]
    exact Ev.now _
def mkL (k0 : Int) : Nat → List Int
  | 0 => []
  | n + 1 => mkL k0 n ++ [k0 + n]
theorem mkL_length (k0 : Int) (n : Nat) : (mkL k0 n).length = n := by
  induction n with
  | zero => rfl
  | succ n ih => rw [mkL, List.length_append, ih]; rfl
theorem mkL_at (k0 : Int) (n : Nat) : ∀ t, t < n → rd (mkL k0 n) (t : Int) = k0 + t := by
  induction n with
  | zero => intro t ht; omega
  | succ n ih =>
    intro t ht
    rw [mkL, rd_snoc, mkL_length]
    by_cases c : t < n
    · rw [if_pos c]; exact ih t c
    · rw [if_neg c, if_pos (by omega), show t = n by omega]
theorem mark_ev (l : List Int) (hl : l.length ≤ 1000) : Ev (fun m => laws_markUint64S.f m l 1) (1 + (l.length : Int), mkL 1 l.length) := by
  have loop : ∀ (d i : Nat) (x : List Int), i + d = l.length → x.length = l.length → (∀ t : Nat, t < i → rd x (t : Int) = 1 + t) → Ev (fun m => laws_markUint64S.l0 m x (1 + (i : Int)) (i : Int)) (1 + (l.length : Int), mkL 1 l.length) := by
    intro d
    induction d with
    | zero =>
      intro i x hi hx h
      refine Ev.step (f := fun _ => some (1 + (l.length : Int), mkL 1 l.length)) (fun m => ?_) (Ev.now _)
      simp only [laws_markUint64S.l0]
      rw [if_neg (by omega), show i = l.length by omega, rd_ext (a := x) (b := mkL 1 l.length) (by rw [mkL_length, hx]) (fun t ht => by rw [h t (by omega), mkL_at 1 _ t (by omega)])]
    | succ d ih =>
      intro i x hi hx h
      refine Ev.step (f := fun m => laws_markUint64S.l0 m (x.set i (1 + (i : Int))) (1 + ((i + 1 : Nat) : Int)) ((i + 1 : Nat) : Int)) (fun m => ?_) (ih (i + 1) _ (by omega) (by rw [List.length_set]; exact hx) (fun t ht => ?_))
      · simp only [laws_markUint64S.l0]
        rw [if_pos (by omega), if_pos (by omega), u64_small (by omega) (by omega), w64 (by omega) (by omega), w64 (by omega) (by omega), Int.toNat_natCast, show 1 + (i : Int) + 1 = 1 + ((i + 1 : Nat) : Int) by omega]
        rfl
      · rw [rd_set _ _ _ _ (by omega)]
        by_cases c : t = i
        · rw [if_pos c, c]
        · rw [if_neg c]; exact h t (by omega)
  exact loop l.length 0 l (by omega) rfl (fun t ht => by omega)
theorem held_ev (n : Nat) (hn : n ≤ 1000) : Ev (fun m => laws_heldUint64S.f m (mkL 1 n) 1) (1 + (n : Int)) := by
  have loop : ∀ (d i : Nat), i + d = n → Ev (fun m => laws_heldUint64S.l0 m (mkL 1 n) (1 + (i : Int)) (i : Int)) (1 + (n : Int)) := by
    intro d
    induction d with
    | zero =>
      intro i hi
      refine Ev.step (f := fun _ => some (1 + (n : Int))) (fun m => ?_) (Ev.now _)
      simp only [laws_heldUint64S.l0]
      rw [mkL_length, if_neg (by omega), show i = n by omega]
    | succ d ih =>
      intro i hi
      refine Ev.step (f := fun m => laws_heldUint64S.l0 m (mkL 1 n) (1 + ((i + 1 : Nat) : Int)) ((i + 1 : Nat) : Int)) (fun m => ?_) (ih (i + 1) (by omega))
      simp only [laws_heldUint64S.l0]
      rw [mkL_length, if_pos (by omega), if_pos (by omega), mkL_at 1 n i (by omega), u64_small (by omega) (by omega), if_pos rfl, w64 (by omega) (by omega), w64 (by omega) (by omega), show 1 + (i : Int) + 1 = 1 + ((i + 1 : Nat) : Int) by omega]
      rfl
  exact loop n 0 (by omega)
theorem eqPacked_ev (n : Int) (l : List Int) (hl : l.length ≤ 1000) : Ev (fun m => laws_eqPacked.f m n l n l) true := by
  unfold laws_eqPacked.f
  exact ev_pos rfl (Ev.bind (eqUint64S_ev l (by omega)) (ev_pos rfl (Ev.now _)))
theorem packV_length (s : ByteArray) : (packV s).2.length ≤ 1000 := by
  unfold packV
  split
  · next c => rw [packTo_length]; have := c.1; omega
  · simp
theorem FnExactPack : laws_FnExactPack.Pure := by
  intro s _
  refine Ev.rounds ?_
  unfold laws_FnExactPack.f
  by_cases c : (s.size : Int) > 1048576
  · exact ev_pos c (Ev.now _)
  · have hi : impl_Pack.f s = some (packV s) := rfl
    have hl := packV_length s
    have hm : Ev (fun m => laws_markPacked.f m (packV s).1 (packV s).2 1) (1 + ((packV s).2.length : Int), mkL 1 (packV s).2.length) := by
      unfold laws_markPacked.f
      exact Ev.bind (mark_ev _ hl) (Ev.now _)
    have hh : Ev (fun m => laws_heldPacked.f m (packV s).1 (mkL 1 (packV s).2.length) 1) (1 + ((packV s).2.length : Int)) := by
      unfold laws_heldPacked.f
      exact Ev.bind (held_ev _ hl) (ev_neg (by omega) (Ev.now _))
    have he := eqPacked_ev (packV s).1 (packV s).2 hl
    exact ev_neg c (Ev.bind (specPack_ev s) (ev_some hi (Ev.bind he (ev_pos rfl (Ev.bind hm (Ev.bind hh (ev_neg (by omega) (ev_pos rfl (ev_some hi (Ev.bind he (ev_pos rfl (Ev.now _))))))))))))
end Go.Proofs.Ytogedkkdhonmlaa.Pure
