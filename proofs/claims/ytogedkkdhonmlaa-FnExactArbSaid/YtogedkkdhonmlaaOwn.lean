import Derived.Lib.Hide
import Derived.Laws.RangeAny
import Derived.Lib.OthersKept
import Derived.Test.YtogedkkdhonmlaaWWords
namespace Go.Proofs.Ytogedkkdhonmlaa.P
open Go Go.RowKit Go.Proofs.YtogedkkdhonmlaaW.PrintWords
set_option linter.unusedVariables false
/-! ### Bit texts -/
def isBit (c : UInt8) : Bool := c == 48 || c == 49
def isBits (s : ByteArray) : Bool := s.data.toList.all isBit
def BitsTo (s : ByteArray) (pos : Nat) : Prop := ∀ i (h : i < s.size), i < pos → isBit (s[i]'h) = true
theorem bitsTo_zero (s : ByteArray) : BitsTo s 0 := fun i _ h => absurd h (Nat.not_lt_zero i)
theorem bitsTo_succ {s : ByteArray} {pos : Nat} (h : BitsTo s pos) (hp : pos < s.size) (hb : isBit (s[pos]'hp) = true) : BitsTo s (pos + 1) := by
  intro i hi hlt
  by_cases e : i = pos
  · subst e; exact hb
  · exact h i hi (by omega)
theorem isBits_iff (s : ByteArray) : isBits s = true ↔ BitsTo s s.size := by
  unfold isBits BitsTo
  rw [List.all_eq_true]
  constructor
  · intro h i hi _
    exact h _ (by show s.data[i] ∈ _; simp)
  · intro h x hx
    obtain ⟨i, hi, rfl⟩ := List.getElem_of_mem hx
    have hs : i < s.size := by simpa using hi
    have h2 := h i hs hs
    rw [Array.getElem_toList]
    exact h2
theorem isBits_of (s : ByteArray) {pos : Nat} (hb : BitsTo s pos) (hp : ¬ pos < s.size) : isBits s = true :=
  (isBits_iff s).2 fun i hi _ => hb i hi (by omega)
theorem isBits_not (s : ByteArray) {pos : Nat} (hp : pos < s.size) (hn : isBit (s[pos]'hp) = false) : isBits s = false := by
  cases h : isBits s with
  | false => rfl
  | true => have := (isBits_iff s).1 h pos hp hp; rw [this] at hn; cases hn
theorem isBits_at {s : ByteArray} (h : isBits s = true) {pos : Nat} (hp : pos < s.size) : isBit (s[pos]'hp) = true := (isBits_iff s).1 h pos hp hp
theorem isBit_cases {c : UInt8} (h : isBit c = true) : c = 48 ∨ c = 49 := by
  unfold isBit at h; simpa using h
theorem not_bit {c : UInt8} (h : isBit c = false) : c.toNat ≠ 48 ∧ c.toNat ≠ 49 := by
  unfold isBit at h
  rw [Bool.or_eq_false_iff] at h
  obtain ⟨h1, h2⟩ := h
  rw [beq_eq_false_iff_ne] at h1 h2
  exact ⟨fun e => h1 (UInt8.toNat_inj.1 e), fun e => h2 (UInt8.toNat_inj.1 e)⟩
theorem decode_notBit (s : ByteArray) (pos : Nat) (hp : pos < s.size) (hn : isBit (s[pos]'hp) = false) : ((((Utf8.decode s pos).1 : Nat) : Int) == 48) = false ∧ ((((Utf8.decode s pos).1 : Nat) : Int) == 49) = false := by
  obtain ⟨h1, h2⟩ := not_bit hn
  by_cases ha : (s[pos]'hp).toNat < 128
  · rw [decode_ascii s pos hp ha]
    constructor <;> rw [beq_eq_false_iff_ne] <;> simp only <;> omega
  · have := (decode_high s pos hp (by omega)).1
    constructor <;> rw [beq_eq_false_iff_ne] <;> omega
theorem next_bit {P : Program} (w : World) (s : ByteArray) (pos : Nat) (ty : TypeId) (hp : pos < s.size) {b : Nat} (hb : (s[pos]'hp).toNat = b) (hlt : b < 128) :
    (Instr.next (.pointer (some ⟨w.heap.size, 0, none⟩)) true ty).run P (w.iter s pos) = .ok (.tuple #[.bool true, .int .i64 pos, .int .i32 b]) (w.iter s (pos + 1)) := by
  rw [run_next_ascii w s pos ty hp (by omega), hb]
theorem below_iter (w : World) (s : ByteArray) (pos : Nat) : Below w.heap.size w (w.iter s pos) := (Below.refl _ _).alloc (Nat.le_refl _) _

/-! ### The register of the sum -/
def crcI (r b : Int) : Int := if (Go.bits .xor .i64 (Go.bits .and .i64 (r / 16384) 1) b) = 1 then Go.bits .xor .i64 (Go.bits .and .i64 (wrap64 (r * 2)) 32767) 17817 else Go.bits .and .i64 (wrap64 (r * 2)) 32767
/-- A fold over the first letters of a text. -/
def foldTo {α : Type} (f : α → Int → α) (z : α) (s : ByteArray) (pos : Nat) : α := ((bytesOf s).take pos).foldl f z
theorem foldTo_zero {α : Type} (f : α → Int → α) (z : α) (s : ByteArray) : foldTo f z s 0 = z := by simp [foldTo]
theorem foldTo_succ {α : Type} (f : α → Int → α) (z : α) (s : ByteArray) (pos : Nat) (hp : pos < s.size) {b : Nat} (hb : (s[pos]'hp).toNat = b) : foldTo f z s (pos + 1) = f (foldTo f z s pos) b := by
  have hl : pos < (bytesOf s).length := by rw [bytesOf_length]; exact hp
  have he : (bytesOf s)[pos]'hl = (b : Int) := by
    have h2 : (bytesOf s)[pos]? = some (b : Int) := by
      unfold bytesOf
      rw [List.getElem?_map, Array.getElem?_toList, Array.getElem?_eq_getElem (show pos < s.data.size from hp), ← hb]
      rfl
    rw [List.getElem?_eq_getElem hl] at h2
    exact Option.some.inj h2
  unfold foldTo
  rw [List.take_succ_eq_append_getElem hl, List.foldl_append, he]
  rfl
theorem foldTo_end {α : Type} (f : α → Int → α) (z : α) (s : ByteArray) (pos : Nat) (hp : ¬ pos < s.size) : foldTo f z s pos = (bytesOf s).foldl f z := by
  unfold foldTo
  rw [List.take_of_length_le (by rw [bytesOf_length]; omega)]
def crcOf (s : ByteArray) : Int := (bytesOf s).foldl (fun r c => crcI r (c - 48)) 0
/-! ### Stuffing, letter by letter -/
def stuffStep (st : List Int × Int × Int) (c : Int) : List Int × Int × Int :=
  if (if c = st.2.2 then st.2.1 + 1 else 1) = 5 then (st.1 ++ [c] ++ [97 - c], 1, 97 - c) else (st.1 ++ [c], (if c = st.2.2 then st.2.1 + 1 else 1), c)
def stuffTo (s : ByteArray) (pos : Nat) : List Int × Int × Int := foldTo stuffStep ([], 0, 120) s pos
def stuffL (l : List Int) : List Int := (l.foldl stuffStep ([], 0, 120)).1
theorem stuffTo_zero (s : ByteArray) : stuffTo s 0 = ([], 0, 120) := foldTo_zero _ _ _
theorem stuffTo_succ (s : ByteArray) (pos : Nat) (hp : pos < s.size) {b : Nat} (hb : (s[pos]'hp).toNat = b) : stuffTo s (pos + 1) = stuffStep (stuffTo s pos) b := foldTo_succ _ _ _ _ hp hb
theorem stuffTo_end (s : ByteArray) (pos : Nat) (hp : ¬ pos < s.size) : (stuffTo s pos).1 = stuffL (bytesOf s) := by
  unfold stuffTo stuffL; rw [foldTo_end _ _ _ _ hp]
theorem foldTo_over {α : Type} (f : α → Int → α) (z : α) (s : ByteArray) (pos : Nat) (hp : ¬ pos < s.size) : foldTo f z s (pos + 1) = foldTo f z s pos := by
  rw [foldTo_end _ _ _ _ hp, foldTo_end _ _ _ _ (by omega)]
/-- What holds of a state of a fold over a text's beginning. -/
theorem foldTo_inv {α : Type} (f : α → Int → α) (z : α) (s : ByteArray) (I : Nat → α → Prop) (h0 : I 0 z) (h1 : ∀ n a c, I n a → I (n + 1) (f a c)) (hm : ∀ n a, I n a → I (n + 1) a) (pos : Nat) : I pos (foldTo f z s pos) := by
  induction pos with
  | zero => rw [foldTo_zero]; exact h0
  | succ n ih =>
    by_cases hp : n < s.size
    · rw [foldTo_succ f z s n hp rfl]; exact h1 _ _ _ ih
    · rw [foldTo_over f z s n hp]; exact hm _ _ ih
theorem stuffTo_bounds (s : ByteArray) (pos : Nat) : (stuffTo s pos).1.length ≤ 2 * pos ∧ 0 ≤ (stuffTo s pos).2.1 ∧ (stuffTo s pos).2.1 ≤ pos := by
  refine foldTo_inv stuffStep ([], 0, 120) s (fun n a => a.1.length ≤ 2 * n ∧ 0 ≤ a.2.1 ∧ a.2.1 ≤ n) ⟨by simp, by simp, by simp⟩ (fun n a c h => ?_) (fun n a h => ⟨by omega, h.2.1, by omega⟩) pos
  obtain ⟨h1, h2, h3⟩ := h
  have hr : 0 ≤ (if c = a.2.2 then a.2.1 + 1 else 1) ∧ (if c = a.2.2 then a.2.1 + 1 else 1) ≤ (n : Int) + 1 := by split <;> omega
  unfold stuffStep
  generalize (if c = a.2.2 then a.2.1 + 1 else 1) = run at *
  split
  · exact ⟨by simp; omega, by simp, by simp; omega⟩
  · exact ⟨by simp; omega, hr.1, by have := hr.2; simp only []; omega⟩
/-! ### Taking the stuff bits out -/
def destuffL : List Int → Int → Int → Int → List Int → List Int × Int
  | [], _, _, _, out => (out, -1)
  | c :: l, i, run, last, out => if run = 5 then (if c = last then (out, i) else destuffL l (i + 1) 1 c out) else destuffL l (i + 1) (if c = last then run + 1 else 1) c (out ++ [c])
theorem drop_cons (s : ByteArray) (pos : Nat) (hp : pos < s.size) {b : Nat} (hb : (s[pos]'hp).toNat = b) : (bytesOf s).drop pos = (b : Int) :: (bytesOf s).drop (pos + 1) := by
  have hl : pos < (bytesOf s).length := by rw [bytesOf_length]; exact hp
  rw [List.drop_eq_getElem_cons hl]
  congr 1
  have h2 : (bytesOf s)[pos]? = some (b : Int) := by
    unfold bytesOf
    rw [List.getElem?_map, Array.getElem?_toList, Array.getElem?_eq_getElem (show pos < s.data.size from hp), ← hb]
    rfl
  rw [List.getElem?_eq_getElem hl] at h2
  exact Option.some.inj h2
theorem drop_end (s : ByteArray) (pos : Nat) (hp : ¬ pos < s.size) : (bytesOf s).drop pos = [] := List.drop_eq_nil_of_le (by rw [bytesOf_length]; omega)
/-- Where the walk stands: what is still to come gives R. -/
structure DesAt (s : ByteArray) (R : List Int × Int) (pos : Nat) (out : List Int) (run last : Int) : Prop where
  eq : destuffL ((bytesOf s).drop pos) pos run last out = R
  len : out.length ≤ pos
  lo : 0 ≤ run
  hi : run ≤ 5
theorem DesAt.zero (s : ByteArray) : DesAt s (destuffL (bytesOf s) 0 0 120 []) 0 [] 0 120 := ⟨by rw [List.drop_zero]; rfl, by simp, by omega, by omega⟩
theorem DesAt.step {s : ByteArray} {R : List Int × Int} {pos : Nat} {out : List Int} {run last : Int} (h : DesAt s R pos out run last) (hp : pos < s.size) {b : Nat} (hb : (s[pos]'hp).toNat = b) (hr : run ≠ 5) : DesAt s R (pos + 1) (out ++ [(b : Int)]) (if (b : Int) = last then run + 1 else 1) b := by
  have e := h.eq
  have h1 := h.len; have h2 := h.lo; have h3 := h.hi
  rw [drop_cons s pos hp hb, destuffL, if_neg hr] at e
  refine ⟨e, by rw [List.length_append]; simp; omega, ?_, ?_⟩
  · split <;> omega
  · split <;> omega
theorem DesAt.skip {s : ByteArray} {R : List Int × Int} {pos : Nat} {out : List Int} {last : Int} (h : DesAt s R pos out 5 last) (hp : pos < s.size) {b : Nat} (hb : (s[pos]'hp).toNat = b) (hl : (b : Int) ≠ last) : DesAt s R (pos + 1) out 1 b := by
  have e := h.eq
  have h1 := h.len
  rw [drop_cons s pos hp hb, destuffL, if_pos rfl, if_neg hl] at e
  exact ⟨e, by omega, by omega, by omega⟩
theorem DesAt.stop {s : ByteArray} {R : List Int × Int} {pos : Nat} {out : List Int} {last : Int} (h : DesAt s R pos out 5 last) (hp : pos < s.size) {b : Nat} (hb : (s[pos]'hp).toNat = b) (hl : (b : Int) = last) : R = (out, (pos : Int)) := by
  have e := h.eq
  rw [drop_cons s pos hp hb, destuffL, if_pos rfl, if_pos hl] at e
  exact e.symm
theorem DesAt.over {s : ByteArray} {R : List Int × Int} {pos : Nat} {out : List Int} {run last : Int} (h : DesAt s R pos out run last) (hp : ¬ pos < s.size) : R = (out, -1) := by
  have e := h.eq
  rw [drop_end s pos hp, destuffL] at e
  exact e.symm
/-- What Destuff says of a text. -/
def destuffV (s : ByteArray) : ByteArray × Int := if s.size ≤ 4000 ∧ isBits s = true then (strOfNums (destuffL (bytesOf s) 0 0 120 []).1, (destuffL (bytesOf s) 0 0 120 []).2) else (⟨#[]⟩, -2)
end Go.Proofs.Ytogedkkdhonmlaa.P
