import Derived.Lib.Hide
import Derived.Laws.RangeAny
import Derived.Lib.OthersKept
import Derived.Test.YtogedkkdhonmlaaWWords
namespace Go.Proofs.Ytogedkkdhonmlaa.P
open Go Go.RowKit Go.Proofs.YtogedkkdhonmlaaW.PrintWords
/-! ### Bit texts -/
def isBit (c : UInt8) : Bool := c == 48 || c == 49
def isBits (s : ByteArray) : Bool := s.data.toList.all isBit
def BitsTo (s : ByteArray) (pos : Nat) : Prop := ∀ i (h : i < s.size), i < pos → isBit (s[i]'h) = true
theorem bitsTo_zero (s : ByteArray) : BitsTo s 0 := fun i _ h => absurd h (Nat.not_lt_zero i)
theorem bitsTo_succ {s : ByteArray} {pos : Nat} (h : BitsTo s pos) (hp : pos < s.size) (hb : isBit (s[pos]'hp) = true) : BitsTo s (pos + 1) := by
  intro i hi hlt
  by_cases e : i = pos
  · subst e; exact hb
  · exact h i hi (by omega)
theorem isBits_iff (s : ByteArray) : isBits s = true ↔ BitsTo s s.size := by
  unfold isBits BitsTo
  rw [List.all_eq_true]
  constructor
  · intro h i hi _
    exact h _ (by show s.data[i] ∈ _; simp)
  · intro h x hx
    obtain ⟨i, hi, rfl⟩ := List.getElem_of_mem hx
    have hs : i < s.size := by simpa using hi
    have h2 := h i hs hs
    rw [Array.getElem_toList]
    exact h2
theorem isBits_of (s : ByteArray) {pos : Nat} (hb : BitsTo s pos) (hp : ¬ pos < s.size) : isBits s = true :=
  (isBits_iff s).2 fun i hi _ => hb i hi (by omega)
theorem isBits_not (s : ByteArray) {pos : Nat} (hp : pos < s.size) (hn : isBit (s[pos]'hp) = false) : isBits s = false := by
  cases h : isBits s with
  | false => rfl
  | true => have := (isBits_iff s).1 h pos hp hp; rw [this] at hn; cases hn
theorem isBits_at {s : ByteArray} (h : isBits s = true) {pos : Nat} (hp : pos < s.size) : isBit (s[pos]'hp) = true := (isBits_iff s).1 h pos hp hp
theorem isBit_cases {c : UInt8} (h : isBit c = true) : c = 48 ∨ c = 49 := by
  unfold isBit at h; simpa using h
theorem not_bit {c : UInt8} (h : isBit c = false) : c.toNat ≠ 48 ∧ c.toNat ≠ 49 := by
  unfold isBit at h
  rw [Bool.or_eq_false_iff] at h
  obtain ⟨h1, h2⟩ := h
  rw [beq_eq_false_iff_ne] at h1 h2
  exact ⟨fun e => h1 (UInt8.toNat_inj.1 e), fun e => h2 (UInt8.toNat_inj.1 e)⟩
theorem decode_notBit (s : ByteArray) (pos : Nat) (hp : pos < s.size) (hn : isBit (s[pos]'hp) = false) : ((((Utf8.decode s pos).1 : Nat) : Int) == 48) = false ∧ ((((Utf8.decode s pos).1 : Nat) : Int) == 49) = false := by
  obtain ⟨h1, h2⟩ := not_bit hn
  by_cases ha : (s[pos]'hp).toNat < 128
  · rw [decode_ascii s pos hp ha]
    constructor <;> rw [beq_eq_false_iff_ne] <;> simp only <;> omega
  · have := (decode_high s pos hp (by omega)).1
    constructor <;> rw [beq_eq_false_iff_ne] <;> omega
theorem next_bit {P : Program} (w : World) (s : ByteArray) (pos : Nat) (ty : TypeId) (hp : pos < s.size) {b : Nat} (hb : (s[pos]'hp).toNat = b) (hlt : b < 128) :
    (Instr.next (.pointer (some ⟨w.heap.size, 0, none⟩)) true ty).run P (w.iter s pos) = .ok (.tuple #[.bool true, .int .i64 pos, .int .i32 b]) (w.iter s (pos + 1)) := by
  rw [run_next_ascii w s pos ty hp (by omega), hb]
theorem below_iter (w : World) (s : ByteArray) (pos : Nat) : Below w.heap.size w (w.iter s pos) := (Below.refl _ _).alloc (Nat.le_refl _) _

/-! ### The register of the sum -/
def crcI (r b : Int) : Int := if (Go.bits .xor .i64 (Go.bits .and .i64 (r / 16384) 1) b) = 1 then Go.bits .xor .i64 (Go.bits .and .i64 (wrap64 (r * 2)) 32767) 17817 else Go.bits .and .i64 (wrap64 (r * 2)) 32767
/-- A fold over the first letters of a text. -/
def foldTo {α : Type} (f : α → Int → α) (z : α) (s : ByteArray) (pos : Nat) : α := ((bytesOf s).take pos).foldl f z
theorem foldTo_zero {α : Type} (f : α → Int → α) (z : α) (s : ByteArray) : foldTo f z s 0 = z := by simp [foldTo]
theorem foldTo_succ {α : Type} (f : α → Int → α) (z : α) (s : ByteArray) (pos : Nat) (hp : pos < s.size) {b : Nat} (hb : (s[pos]'hp).toNat = b) : foldTo f z s (pos + 1) = f (foldTo f z s pos) b := by
  have hl : pos < (bytesOf s).length := by rw [bytesOf_length]; exact hp
  have he : (bytesOf s)[pos]'hl = (b : Int) := by
    have h2 : (bytesOf s)[pos]? = some (b : Int) := by
      unfold bytesOf
      rw [List.getElem?_map, Array.getElem?_toList, Array.getElem?_eq_getElem (show pos < s.data.size from hp), ← hb]
      rfl
    rw [List.getElem?_eq_getElem hl] at h2
    exact Option.some.inj h2
  unfold foldTo
  rw [List.take_succ_eq_append_getElem hl, List.foldl_append, he]
  rfl
theorem foldTo_end {α : Type} (f : α → Int → α) (z : α) (s : ByteArray) (pos : Nat) (hp : ¬ pos < s.size) : foldTo f z s pos = (bytesOf s).foldl f z := by
  unfold foldTo
  rw [List.take_of_length_le (by rw [bytesOf_length]; omega)]
def crcOf (s : ByteArray) : Int := (bytesOf s).foldl (fun r c => crcI r (c - 48)) 0
end Go.Proofs.Ytogedkkdhonmlaa.P
