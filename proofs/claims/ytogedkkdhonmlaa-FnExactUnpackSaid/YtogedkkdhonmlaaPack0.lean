import Derived.Test.YtogedkkdhonmlaaInts
import Derived.Test.YtogedkkdhonmlaaWMore
import Derived.Laws.BitsAllLaws
namespace Go.Proofs.Ytogedkkdhonmlaa.P
open Go Go.RowKit Go.Proofs.YtogedkkdhonmlaaW.PrintWords Go.Proofs.YtogedkkdhonmlaaW.PrintMore
/-! ### Packed bits -/
/-- Bit i of the words. -/
def pb (l : List Int) (i : Nat) : Bool := (rd l ((i / 64 : Nat) : Int)).toNat.testBit (63 - i % 64)
def Words (l : List Int) : Prop := ∀ x ∈ l, (Lit.int .u64 x).wf = true
theorem words_at {l : List Int} (h : Words l) (i : Nat) (hi : i < l.length) : 0 ≤ rd l (i : Int) ∧ rd l (i : Int) < 18446744073709551616 := by
  have hm : rd l (i : Int) ∈ l := by
    have := rd_get l i hi
    exact List.mem_of_getElem? this
  have h1 := h _ hm
  simp [Lit.wf, IntKind.min, IntKind.max, IntKind.signed, IntKind.bits] at h1
  omega
theorem tdiv64 (i : Nat) (h : i < 100000000) : wrap64 (Int.tdiv (i : Int) 64) = ((i / 64 : Nat) : Int) := by
  rw [Int.tdiv_eq_ediv_of_nonneg (by omega)]
  unfold wrap64; omega
theorem tmod64 (i : Nat) : Int.tmod (i : Int) 64 = ((i % 64 : Nat) : Int) := by
  rw [Int.tmod_eq_emod_of_nonneg (by omega)]
  omega
theorem left64 (i : Nat) : IntKind.u64.wrap (wrap64 (63 - (Int.tmod (i : Int) 64))) = ((63 - i % 64 : Nat) : Int) := by
  rw [tmod64, IntKind.wrap_u64]
  unfold wrap64; omega
theorem b2_testBit (n j : Nat) : ((n / 2 ^ j % 2 : Nat) : Int) = b2 (n.testBit j) := by
  rw [Nat.testBit_eq_decide_div_mod_eq]
  unfold b2
  by_cases c : n / 2 ^ j % 2 = 1
  · rw [c]; simp
  · rw [show n / 2 ^ j % 2 = 0 by omega]; simp
theorem word_bit (l : List Int) (h : Words l) (i : Nat) (hs : i < 100000000) (hi : i / 64 < l.length) :
    wrap64 (Go.bits .and .u64 (shr .u64 (rd l (wrap64 (Int.tdiv (i : Int) 64))) (IntKind.u64.wrap (wrap64 (63 - (Int.tmod (i : Int) 64))))) 1) = b2 (pb l i) := by
  obtain ⟨h0, h1⟩ := words_at h (i / 64) hi
  rw [tdiv64 i hs, left64]
  obtain ⟨x, hx⟩ : ∃ x : Nat, rd l ((i / 64 : Nat) : Int) = (x : Int) := ⟨(rd l ((i / 64 : Nat) : Int)).toNat, by omega⟩
  unfold pb
  rw [hx] at h0 h1 ⊢
  have hsh : shr .u64 (x : Int) ((63 - i % 64 : Nat) : Int) = ((x / 2 ^ (63 - i % 64) : Nat) : Int) := by
    unfold shr
    rw [Int.toNat_natCast, show min (63 - i % 64) IntKind.u64.bits = 63 - i % 64 from Nat.min_eq_left (by show 63 - i % 64 ≤ 64; omega)]
    push_cast
    rfl
  have hlt : x / 2 ^ (63 - i % 64) < 18446744073709551616 := Nat.lt_of_le_of_lt (Nat.div_le_self _ _) (by omega)
  rw [hsh]
  have := u64_and_nat (x / 2 ^ (63 - i % 64)) 1 hlt (by decide)
  rw [show ((1 : Nat) : Int) = 1 from rfl] at this
  rw [this, Nat.and_one_is_mod, b2_testBit, Int.toNat_natCast]
  have := b2_range (x.testBit (63 - i % 64))
  exact w64 (by omega) (by omega)
/-- Whether a packed text is sound. -/
def okP (n : Int) (l : List Int) : Bool := decide (0 ≤ n) && (decide (n ≤ 4000) && (decide (l.length = (n.toNat + 63) / 64) && (List.range (64 * l.length)).all fun i => decide (i < n.toNat) || !pb l i))
theorem okP_parts {n : Int} {l : List Int} (h : okP n l = true) : 0 ≤ n ∧ n ≤ 4000 ∧ l.length = (n.toNat + 63) / 64 ∧ ∀ i, n.toNat ≤ i → i < 64 * l.length → pb l i = false := by
  unfold okP at h
  rw [Bool.and_eq_true, Bool.and_eq_true, Bool.and_eq_true, List.all_eq_true] at h
  obtain ⟨h1, h2, h3, h4⟩ := h
  refine ⟨of_decide_eq_true h1, of_decide_eq_true h2, of_decide_eq_true h3, fun i hi hl => ?_⟩
  have := h4 i (List.mem_range.2 hl)
  rw [decide_eq_false (by omega), Bool.false_or] at this
  simpa using this
theorem okP_mk {n : Int} {l : List Int} (h1 : 0 ≤ n) (h2 : n ≤ 4000) (h3 : l.length = (n.toNat + 63) / 64) (h4 : ∀ i, n.toNat ≤ i → i < 64 * l.length → pb l i = false) : okP n l = true := by
  unfold okP
  rw [Bool.and_eq_true, Bool.and_eq_true, Bool.and_eq_true, List.all_eq_true]
  refine ⟨decide_eq_true h1, decide_eq_true h2, decide_eq_true h3, fun i hi => ?_⟩
  by_cases c : i < n.toNat
  · rw [decide_eq_true c]; rfl
  · rw [h4 i (by omega) (List.mem_range.1 hi), Bool.not_false, Bool.or_true]
/-- The letters of a packed text. -/
def lettersP (n : Nat) (l : List Int) : List Int := (List.range n).map fun i => 48 + b2 (pb l i)
theorem lettersP_length (n : Nat) (l : List Int) : (lettersP n l).length = n := by simp [lettersP]
theorem lettersP_succ (n : Nat) (l : List Int) : lettersP (n + 1) l = lettersP n l ++ [48 + b2 (pb l n)] := by
  unfold lettersP; rw [List.range_succ, List.map_append]; rfl
theorem lettersP_get (n : Nat) (l : List Int) (i : Nat) (h : i < n) : rd (lettersP n l) (i : Int) = 48 + b2 (pb l i) := by
  have := rd_get (lettersP n l) i (by rw [lettersP_length]; exact h)
  rw [show (lettersP n l)[i]? = some (48 + b2 (pb l i)) by unfold lettersP; rw [List.getElem?_map, List.getElem?_range h]; rfl] at this
  exact (Option.some.inj this).symm
/-- The last word, moved up, is zero where its low bits are. -/
theorem shl_zero (x r : Nat) (hr : r < 64) : shl .u64 (x : Int) (r : Int) = 0 ↔ ∀ j, j < 64 - r → x.testBit j = false := by
  have e : shl .u64 (x : Int) (r : Int) = ((x * 2 ^ r % 18446744073709551616 : Nat) : Int) := by
    unfold shl
    rw [IntKind.wrap_u64, Int.toNat_natCast, show min r IntKind.u64.bits = r from Nat.min_eq_left (by show r ≤ 64; omega), Int.natCast_emod, Int.natCast_mul, Int.natCast_pow]
    rfl
  have e2 : x * 2 ^ r % 18446744073709551616 = x % 2 ^ (64 - r) * 2 ^ r := by
    rw [show (18446744073709551616 : Nat) = 2 ^ (64 - r) * 2 ^ r by rw [← Nat.pow_add, show 64 - r + r = 64 by omega]]
    exact Nat.mul_mod_mul_right _ _ _
  rw [e, e2]
  have hp : 0 < 2 ^ r := Nat.two_pow_pos r
  constructor
  · intro h j hj
    have h0 : x % 2 ^ (64 - r) * 2 ^ r = 0 := by omega
    have h1 : x % 2 ^ (64 - r) = 0 := by
      rcases Nat.mul_eq_zero.1 h0 with h | h
      · exact h
      · omega
    have h2 := Nat.testBit_mod_two_pow x (64 - r) j
    rw [h1, Nat.zero_testBit, decide_eq_true hj, Bool.true_and] at h2
    exact h2.symm
  · intro h
    have h1 : x % 2 ^ (64 - r) = 0 := by
      apply Nat.eq_of_testBit_eq
      intro j
      rw [Nat.testBit_mod_two_pow, Nat.zero_testBit]
      by_cases c : j < 64 - r
      · rw [h j c]; simp
      · rw [decide_eq_false c]; rfl
    rw [h1, Nat.zero_mul]; rfl
end Go.Proofs.Ytogedkkdhonmlaa.P
