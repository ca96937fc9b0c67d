import Derived.Test.YtogedkkdhonmlaaOwn
import Derived.Laws.BitsLemmas
import Derived.Laws.BitsAllLaws
namespace Go.Proofs.Ytogedkkdhonmlaa.P
open Go Go.RowKit Go.Proofs.YtogedkkdhonmlaaW.PrintWords
set_option linter.unusedVariables false
/-! ### The register of the sum, in natural numbers -/
def crcN (r b : Nat) : Nat := if (r / 16384) ^^^ b = 1 then (2 * r % 32768) ^^^ 17817 else 2 * r % 32768
theorem bits_xor_i64 (a b : Nat) (ha : a < 2 ^ 62) (hb : b < 2 ^ 62) : bits .xor .i64 (a : Int) (b : Int) = ((a ^^^ b : Nat) : Int) := by
  have hp : (2 : Nat) ^ 62 ≤ 2 ^ IntKind.i64.bits := Nat.pow_le_pow_right (by decide) (by decide)
  have ha' : a % 2 ^ IntKind.i64.bits = a := Nat.mod_eq_of_lt (Nat.lt_of_lt_of_le ha hp)
  have hb' : b % 2 ^ IntKind.i64.bits = b := Nat.mod_eq_of_lt (Nat.lt_of_lt_of_le hb hp)
  simp only [bits, BitVec.ofInt_natCast, BitVec.toNat_xor, BitVec.toNat_ofNat, ha', hb']
  have h := Nat.xor_lt_two_pow ha hb
  rw [IntKind.wrap_i64]
  omega
theorem bits_and_i64 (a b : Nat) (ha : a < 2 ^ 62) (hb : b < 2 ^ 62) : bits .and .i64 (a : Int) (b : Int) = ((a &&& b : Nat) : Int) :=
  (bits_nat .i64 62 (by decide) (fun n h0 h1 => by rw [IntKind.wrap_i64]; omega) a b ha hb).1
theorem crcI_nat (r b : Nat) (hr : r < 32768) (hb : b ≤ 1) : crcI r b = crcN r b := by
  have h1 : ((r : Int) / 16384) = ((r / 16384 : Nat) : Int) := by omega
  have h2 : bits .and .i64 ((r : Int) / 16384) 1 = ((r / 16384 : Nat) : Int) := by
    rw [h1]
    have := bits_and_i64 (r / 16384) 1 (by omega) (by decide)
    rw [show ((1 : Nat) : Int) = 1 from rfl] at this
    rw [this, Nat.and_one_is_mod]
    omega
  have h3 : bits .and .i64 (wrap64 ((r : Int) * 2)) 32767 = ((2 * r % 32768 : Nat) : Int) := by
    have hw : wrap64 ((r : Int) * 2) = ((2 * r : Nat) : Int) := by unfold wrap64; omega
    rw [hw]
    have := bits_and_i64 (2 * r) 32767 (by omega) (by decide)
    rw [show ((32767 : Nat) : Int) = 32767 from rfl] at this
    rw [this, show (32767 : Nat) = 2 ^ 15 - 1 from rfl, Nat.and_two_pow_sub_one_eq_mod]
  have h4 : bits .xor .i64 ((r / 16384 : Nat) : Int) (b : Int) = ((r / 16384 ^^^ b : Nat) : Int) := bits_xor_i64 _ _ (by omega) (by omega)
  have h5 : bits .xor .i64 ((2 * r % 32768 : Nat) : Int) 17817 = ((2 * r % 32768 ^^^ 17817 : Nat) : Int) := bits_xor_i64 _ 17817 (by omega) (by decide)
  unfold crcI crcN
  rw [h2, h3, h4, h5]
  by_cases c : r / 16384 ^^^ b = 1
  · rw [if_pos c, if_pos (by rw [c]; rfl)]
  · rw [if_neg c, if_neg (by omega)]
theorem crcN_lt (r b : Nat) : crcN r b < 32768 := by
  unfold crcN
  split
  · exact Nat.xor_lt_two_pow (n := 15) (by omega) (by decide)
  · omega
/-- A letter as a bit. -/
def bitN (c : Int) : Nat := if c = 49 then 1 else 0
def bitB (c : Int) : Bool := decide (c = 49)
/-- The sum of a list of letters. -/
def crcL (l : List Int) : Nat := l.foldl (fun r c => crcN r (bitN c)) 0
theorem crcL_snoc (l : List Int) (c : Int) : crcL (l ++ [c]) = crcN (crcL l) (bitN c) := by
  unfold crcL; rw [List.foldl_append]; rfl
/-- Induction from behind. -/
theorem snoc_ind {α : Type} {p : List α → Prop} (h0 : p []) (h1 : ∀ l c, p l → p (l ++ [c])) (l : List α) : p l := by
  have key : ∀ m : List α, p m.reverse := by
    intro m
    induction m with
    | nil => exact h0
    | cons a m ih => rw [List.reverse_cons]; exact h1 _ _ ih
  have := key l.reverse
  rwa [List.reverse_reverse] at this
theorem crcL_lt (l : List Int) : crcL l < 32768 := by
  induction l using snoc_ind with
  | h0 => decide
  | h1 l c _ => rw [crcL_snoc]; exact crcN_lt _ _
theorem crcI_list (l : List Int) (hl : ∀ c ∈ l, c = 48 ∨ c = 49) : l.foldl (fun r c => crcI r (c - 48)) 0 = (crcL l : Int) := by
  induction l using snoc_ind with
  | h0 => rfl
  | h1 l c ih =>
    rw [List.foldl_append, ih (fun x hx => hl x (List.mem_append_left _ hx)), crcL_snoc, List.foldl_cons, List.foldl_nil]
    rcases hl c (by simp) with rfl | rfl
    · exact crcI_nat _ 0 (crcL_lt l) (by decide)
    · exact crcI_nat _ 1 (crcL_lt l) (by decide)
/-- What one bit does to the register, place by place. -/
theorem crcN_testBit (r b : Nat) (hr : r < 32768) (hb : b ≤ 1) (j : Nat) (hj : j < 15) :
    (crcN r b).testBit j = (((decide (0 < j)) && r.testBit (j - 1)) ^^ ((r.testBit 14 ^^ decide (b = 1)) && Nat.testBit 17817 j)) := by
  have h14 : r.testBit 14 = decide (r / 16384 = 1) := by
    rw [Nat.testBit_eq_decide_div_mod_eq]
    congr 1
    have : r / 2 ^ 14 % 2 = r / 16384 := by omega
    rw [this]
  have hy : (2 * r % 32768).testBit j = (decide (0 < j) && r.testBit (j - 1)) := by
    rw [show (32768 : Nat) = 2 ^ 15 from rfl, Nat.testBit_mod_two_pow, show 2 * r = r <<< 1 by omega, Nat.testBit_shiftLeft]
    simp [hj]
    rfl
  have hx : (r / 16384 ^^^ b = 1) ↔ (r.testBit 14 ^^ decide (b = 1)) = true := by
    rw [h14]
    have h0 : r / 16384 = 0 ∨ r / 16384 = 1 := by omega
    have h1 : b = 0 ∨ b = 1 := by omega
    rcases h0 with h0 | h0 <;> rcases h1 with h1 | h1 <;> rw [h0, h1] <;> decide
  unfold crcN
  by_cases c : r / 16384 ^^^ b = 1
  · rw [if_pos c, Nat.testBit_xor, hy, hx.1 c, Bool.true_and]
  · rw [if_neg c, hy]
    have : (r.testBit 14 ^^ decide (b = 1)) = false := by
      cases h : (r.testBit 14 ^^ decide (b = 1)) with
      | false => rfl
      | true => exact absurd (hx.2 h) c
    rw [this]; simp
end Go.Proofs.Ytogedkkdhonmlaa.P
