import Derived.Test.YtogedkkdhonmlaaRow8
import Derived.Lib.Strings
import Derived.Lib.SmallJoins
import Derived.Test.YtogedkkdhonmlaaCrc
namespace Go.Proofs.Ytogedkkdhonmlaa.P
open Go Go.RowKit Go.Proofs.YtogedkkdhonmlaaW.PrintWords
set_option linter.unusedVariables false
/-! ### Texts out of letters -/
theorem text_ext {a b : ByteArray} (h : a.data.toList = b.data.toList) : a = b := by
  cases a; cases b
  exact congrArg ByteArray.mk (Array.toList_inj.1 h)
theorem str_append (a b : List Int) : strOfNums (a ++ b) = strOfNums a ++ strOfNums b := by
  apply text_ext
  rw [Joins.data_append, strOfNums_data, strOfNums_data, strOfNums_data, List.map_append]
theorem str_extract_left (a b : List Int) : (strOfNums (a ++ b)).extract 0 a.length = strOfNums a := by
  apply text_ext
  rw [Lib.extract_data, strOfNums_data, strOfNums_data, List.drop_zero, List.map_append, Nat.sub_zero]
  exact List.take_left' (by simp)
theorem str_extract_right (a b : List Int) : (strOfNums (a ++ b)).extract a.length (strOfNums (a ++ b)).size = strOfNums b := by
  apply text_ext
  rw [Lib.extract_data, strOfNums_data, strOfNums_data, List.map_append, List.drop_left' (by simp), strOfNums_size, List.length_append, List.take_of_length_le (by simp)]
theorem str_extract (l : List Int) (a b : Nat) (h : a ≤ b) : (strOfNums l).extract a b = strOfNums ((l.drop a).take (b - a)) := by
  apply text_ext
  rw [Lib.extract_data, strOfNums_data, strOfNums_data, List.map_take, List.map_drop]
theorem bytes_str (l : List Int) (h : ∀ x ∈ l, 0 ≤ x ∧ x < 256) : bytesOf (strOfNums l) = l := by
  unfold bytesOf
  rw [strOfNums_data, List.map_map]
  conv => rhs; rw [← List.map_id l]
  refine List.map_congr_left fun x hx => ?_
  have := h x hx
  simp only [Function.comp, id]
  rw [UInt8.toNat_ofNat_of_lt' (show x.toNat < UInt8.size by simp [UInt8.size]; omega)]
  omega
theorem numL_snoc (u n : Nat) : numL u (n + 1) = numL (u / 2) n ++ [48 + ((u % 2 : Nat) : Int)] := by
  induction n with
  | zero => simp [numL]
  | succ n ih =>
    rw [numL, ih, numL, List.cons_append]
    congr 3
    rw [Nat.div_div_eq_div_mul, Nat.pow_succ, Nat.mul_comm]
theorem numL_add (u a b : Nat) : numL u (a + b) = numL (u / 2 ^ b) a ++ numL u b := by
  induction a with
  | zero => rw [Nat.zero_add]; rfl
  | succ a ih =>
    rw [show a + 1 + b = (a + b) + 1 by omega, numL, ih, numL, List.cons_append, Nat.div_div_eq_div_mul, ← Nat.pow_add, Nat.add_comm b a]
theorem numL_bits (u n : Nat) : ∀ x ∈ numL u n, x = 48 ∨ x = 49 := by
  induction n with
  | zero => intro x hx; cases hx
  | succ n ih =>
    intro x hx
    rw [numL] at hx
    rcases List.mem_cons.1 hx with rfl | hx
    · have : u / 2 ^ n % 2 < 2 := Nat.mod_lt _ (by decide)
      omega
    · exact ih x hx
def Bits (l : List Int) : Prop := ∀ x ∈ l, x = 48 ∨ x = 49
theorem Bits.range {l : List Int} (h : Bits l) : ∀ x ∈ l, 0 ≤ x ∧ x < 256 := fun x hx => by rcases h x hx with rfl | rfl <;> omega
theorem Bits.append {a b : List Int} (h : Bits a) (k : Bits b) : Bits (a ++ b) := fun x hx => (List.mem_append.1 hx).elim (h x) (k x)
theorem isBits_str {l : List Int} (h : Bits l) : isBits (strOfNums l) = true := by
  unfold isBits
  rw [strOfNums_data, List.all_map, List.all_eq_true]
  intro x hx
  rcases h x hx with rfl | rfl <;> rfl
theorem crcOf_str {l : List Int} (h : Bits l) : crcOf (strOfNums l) = (crcL l : Int) := by
  unfold crcOf
  rw [bytes_str l h.range]
  exact crcI_list l h
theorem flagL_bits (b : Bool) : Bits (flagL b) := by cases b <;> intro x hx <;> simp [flagL, b2] at hx <;> omega
theorem dataL_bits (l : List Int) : Bits (dataL l) := by
  intro x hx
  obtain ⟨y, _, hy⟩ := List.mem_flatMap.1 hx
  exact numL_bits _ _ x hy
theorem bodyL_bits (ext : Bool) (id : Int) (rtr : Bool) (dlc : Int) (l : List Int) : Bits (bodyL ext id rtr dlc l) := by
  unfold bodyL headL
  refine ((?_ : Bits _).append (numL_bits _ _)).append (dataL_bits l)
  cases ext
  · exact (((Bits.append (numL_bits _ _) (numL_bits _ _)).append (flagL_bits rtr)).append (numL_bits _ _))
  · exact ((((Bits.append (Bits.append (numL_bits _ _) (numL_bits _ _)) (numL_bits _ _)).append (numL_bits _ _)).append (flagL_bits rtr)).append (numL_bits _ _))
theorem bodyL_length (ext : Bool) (id : Int) (rtr : Bool) (dlc : Int) (l : List Int) (h : l.length ≤ 8) : (bodyL ext id rtr dlc l).length ≤ 103 := by
  unfold bodyL
  rw [List.length_append, List.length_append, numL_length, dataL_length]
  have := headL_length ext id rtr
  omega
/-- The plain bits of a frame, its sum behind. -/
def plainL (ext : Bool) (id : Int) (rtr : Bool) (dlc : Int) (l : List Int) : List Int := bodyL ext id rtr dlc l ++ numL (crcL (bodyL ext id rtr dlc l)) 15
theorem plainL_bits (ext : Bool) (id : Int) (rtr : Bool) (dlc : Int) (l : List Int) : Bits (plainL ext id rtr dlc l) := (bodyL_bits ext id rtr dlc l).append (numL_bits _ _)
theorem plainL_length (ext : Bool) (id : Int) (rtr : Bool) (dlc : Int) (l : List Int) (h : l.length ≤ 8) : (plainL ext id rtr dlc l).length ≤ 118 := by
  unfold plainL
  rw [List.length_append, numL_length]
  have := bodyL_length ext id rtr dlc l h
  omega
def onesL : List Int := [49, 49, 49, 49, 49, 49, 49, 49, 49, 49]
end Go.Proofs.Ytogedkkdhonmlaa.P
