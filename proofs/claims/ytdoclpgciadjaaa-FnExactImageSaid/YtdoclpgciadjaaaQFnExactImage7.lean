import Derived.Test.YtdoclpgciadjaaaQFnExactImage0
import Derived.Test.YtdoclpgciadjaaaQFnExactImage6
import Derived.Test.YtdoclpgciadjaaaQFnExactImage3
import Derived.Test.YtdoclpgciadjaaaQFnExactImage4
import Derived.Test.YtdoclpgciadjaaaQFnExactImage1
import Derived.Test.YtdoclpgciadjaaaQFnExactImage2
import Derived.Laws.BitsAllLaws
import Derived.Test.YtdoclpgciadjaaaQFnExactImage5

namespace Go.Proofs.Ytdoclpgciadjaaa.P
open Go.RowKit Go.Proofs.YtdoclpgciadjaaaW.PrintWords Go.Proofs.YtdoclpgciadjaaaW.PrintLast Go.Proofs.YtdoclpgciadjaaaW.PrintMore
attribute [local go_sem] max2_int min2_int max_two min_two max_three min_three max_four min_four
set_option linter.unusedVariables false
set_option linter.unusedSimpArgs false

def b46 (x : S46) : Prop := True ∧ (Lit.int .u32 x.f1).wf = true ∧ True ∧ (Lit.int .i64 x.f3).wf = true ∧ (x.f4.length ≤ maxLen ∧ ∀ y_ ∈ x.f4, (Lit.int .u8 y_).wf = true)
theorem reads46 : Reads Try.prog 46 k46 b46 := reads_struct (fun x : S46 => (x.f0, x.f1, x.f2, x.f3, x.f4)) (fun y => ⟨y.1, y.2.1, y.2.2.1, y.2.2.2.1, y.2.2.2.2⟩) (fun _ => rfl) Try.underlying46 (by kernel_rfl) (rf_cons rfl (by kernel_rfl) (reads_bool Try.underlying4) (rf_cons rfl (by kernel_rfl) (reads_int Try.underlying23) (rf_cons rfl (by kernel_rfl) (reads_bool Try.underlying4) (rf_cons rfl (by kernel_rfl) (reads_int Try.underlying3) (rf_last rfl (by kernel_rfl) (reads_slice Try.underlying22 (by kernel_rfl) (reads_int Try.underlying5)))))))
def laws_FnExactImage.PureS : Prop := ∀ (x0 : S46), b46 x0 → ∃ k, laws_FnExactImage.f k (x0.f0) (x0.f1) (x0.f2) (x0.f3) (x0.f4) = some true
end Go.Proofs.Ytdoclpgciadjaaa.P

namespace Go.Proofs.Ytdoclpgciadjaaa.P
open Go Go.RowKit Go.Proofs.YtdoclpgciadjaaaW.PrintWords
set_option linter.unusedVariables false
theorem szByteS_eq (l : List Int) (a : Int) (h : l.length ≤ maxLen) (h0 : 0 ≤ a) (h1 : a ≤ 1048576) : laws_szByteS.f l a = some (if a < l.length then -1 else a - l.length) := by
  unfold laws_szByteS.f
  simp only [maxLen] at h
  have e : wrap64 (a - (l.length : Int)) = a - l.length := by unfold wrap64; omega
  rw [e]
  by_cases c : a < (l.length : Int)
  · rw [if_pos (by omega), if_pos c]
  · rw [if_neg (by omega), if_neg c]

theorem toByteS_ev (l : List Int) (h : l.length ≤ 10000000) : Ev (fun k => laws_toByteS.f k l) l := by
  have loop : ∀ (d i : Nat) (x : List Int), i + d = l.length → SameTo x l i → Ev (fun k => laws_toByteS.l0 k l x (i : Int)) l := by
    intro d
    induction d with
    | zero =>
      intro i x hi hx
      refine Ev.step (f := fun _ => some l) (fun k => ?_) (Ev.now _)
      simp only [laws_toByteS.l0]
      rw [if_neg (by omega), hx.all (by omega)]
    | succ d ih =>
      intro i x hi hx
      refine Ev.step (f := fun k => laws_toByteS.l0 k l (x.set i (rd l (i : Int))) ((i + 1 : Nat) : Int)) (fun k => ?_) (ih (i + 1) _ (by omega) (hx.next (by omega)))
      have hl := hx.1
      simp only [laws_toByteS.l0]
      rw [if_pos (by omega), if_pos (by omega), if_pos (by omega), w64 (by omega) (by omega)]
      rfl
  refine Ev.congr (fun k => ?_) (loop l.length 0 (List.replicate l.length 0) (by omega) (SameTo.zero (by simp)))
  unfold laws_toByteS.f
  rw [if_pos (by omega), if_pos (by omega)]
  rfl

theorem eqByteS_ev (l : List Int) (h : l.length ≤ 10000000) : Ev (fun k => laws_eqByteS.f k l l) true := by
  have loop : ∀ (d i : Nat), i + d = l.length → Ev (fun k => laws_eqByteS.l0 k l l (i : Int)) true := by
    intro d
    induction d with
    | zero =>
      intro i hi
      refine Ev.step (f := fun _ => some true) (fun k => ?_) (Ev.now _)
      simp only [laws_eqByteS.l0]
      rw [if_neg (by omega)]
    | succ d ih =>
      intro i hi
      refine Ev.step (f := fun k => laws_eqByteS.l0 k l l ((i + 1 : Nat) : Int)) (fun k => ?_) (ih (i + 1) (by omega))
      simp only [laws_eqByteS.l0]
      rw [if_pos (by omega), if_pos (by omega), if_pos (by omega), if_pos trivial, w64 (by omega) (by omega)]
      rfl
  refine Ev.congr (fun k => ?_) (loop l.length 0 (by omega))
  unfold laws_eqByteS.f
  rw [if_pos rfl]
  rfl

end Go.Proofs.Ytdoclpgciadjaaa.P

namespace Go.Proofs.Ytdoclpgciadjaaa.P
open Go Go.RowKit Go.Proofs.YtdoclpgciadjaaaW.PrintWords
set_option linter.unusedVariables false
theorem szFrame_eq (e : Bool) (i : Int) (r : Bool) (d : Int) (l : List Int) (a : Int) (h : l.length ≤ maxLen) (h0 : 0 ≤ a) (h1 : a ≤ 1048576) : laws_szFrame.f e i r d l a = some (if a < l.length then -1 else a - l.length) := by
  unfold laws_szFrame.f
  rw [szByteS_eq l a h h0 h1, Option.bind_some]
  by_cases c : a < (l.length : Int)
  · rw [if_pos c, if_pos (by omega)]
  · rw [if_neg c, if_neg (by omega)]
theorem toFrame_ev (e : Bool) (i : Int) (r : Bool) (d : Int) (l : List Int) (h : l.length ≤ 10000000) : Ev (fun k => laws_toFrame.f k e i r d l) (e, i, r, d, l) := by
  refine Ev.congr (fun k => by unfold laws_toFrame.f; rfl) (Ev.bind (toByteS_ev l h) (Ev.now _))
theorem eqFrame_ev (e : Bool) (i : Int) (r : Bool) (d : Int) (l : List Int) (h : l.length ≤ 10000000) : Ev (fun k => laws_eqFrame.f k e i r d l e i r d l) true := by
  refine Ev.congr (fun k => by unfold laws_eqFrame.f; rw [if_neg (by simp), if_pos rfl, if_neg (by simp), if_pos rfl]) (Ev.bind (f := fun _ t => if t = true then some true else some false) (eqByteS_ev l h) (Ev.now _))
end Go.Proofs.Ytdoclpgciadjaaa.P

/- What a frame's bounds say of its number and its bytes. -/
namespace Go.Proofs.Ytdoclpgciadjaaa.P
open Go Go.RowKit Go.Proofs.YtdoclpgciadjaaaW.PrintWords
theorem okBytes_of {l : List Int} (h : ∀ y ∈ l, (Lit.int .u8 y).wf = true) : okBytes l = true := by
  unfold okBytes
  rw [List.all_eq_true]
  intro x hx
  have := h x hx
  simp [Lit.wf, show IntKind.u8.min = 0 from rfl, show IntKind.u8.max = 255 from rfl] at this ⊢
  omega
theorem frame_ok {i : Int} {l : List Int} (hi : (Lit.int .u32 i).wf = true) (hb : ∀ y ∈ l, (Lit.int .u8 y).wf = true) : 0 ≤ i ∧ okBytes l = true := by
  refine ⟨?_, okBytes_of hb⟩
  simp [Lit.wf, show IntKind.u32.min = 0 from rfl] at hi
  omega
end Go.Proofs.Ytdoclpgciadjaaa.P

namespace Go.Proofs.Ytdoclpgciadjaaa.P
open Go Go.RowKit Go.Proofs.YtdoclpgciadjaaaW.PrintWords
set_option linter.unusedVariables false
/-! ### Letters of a text; the reference's look at them -/
theorem bt_eq (s : ByteArray) (i : Nat) (h : i < s.size) : bt s (i : Int) = ((s[i]'h).toNat : Int) := by
  unfold bt; rw [dif_pos (show (i : Int).toNat < s.size from h)]; rfl
theorem bytesOf_get (s : ByteArray) (i : Nat) (h : i < (bytesOf s).length) : (bytesOf s)[i]'h = bt s (i : Int) := by
  have hs : i < s.size := by rw [bytesOf_length] at h; exact h
  have h2 : (bytesOf s)[i]? = some (bt s (i : Int)) := by
    unfold bytesOf
    rw [List.getElem?_map, Array.getElem?_toList, Array.getElem?_eq_getElem (show i < s.data.size from hs), bt_eq s i hs]
    rfl
  rw [List.getElem?_eq_getElem h] at h2
  exact Option.some.inj h2
theorem okBits_ev (s : ByteArray) (lim : Nat) (hlim : lim < 100000000) :
    Ev (fun k => spec_l1okBits.f k s (lim : Int)) (decide (s.size ≤ lim) && isBits s) := by
  have loop : s.size ≤ lim → ∀ (d i : Nat), i + d = s.size → BitsTo s i → Ev (fun k => spec_l1okBits.l0 k s (i : Int)) (isBits s) := by
    intro hl d
    induction d with
    | zero =>
      intro i hi hb
      refine Ev.step (f := fun _ => some (isBits s)) (fun k => ?_) (Ev.now _)
      simp only [spec_l1okBits.l0]
      rw [if_neg (by omega), isBits_of s hb (by omega)]
    | succ d ih =>
      intro i hi hb
      have hp : i < s.size := by omega
      cases hbit : isBit (s[i]'hp) with
      | true =>
        refine Ev.step (f := fun k => spec_l1okBits.l0 k s ((i + 1 : Nat) : Int)) (fun k => ?_) (ih (i + 1) (by omega) (bitsTo_succ hb hp hbit))
        simp only [spec_l1okBits.l0]
        rw [if_pos (by omega), if_pos (by omega), bt_eq s i hp, w64 (by omega) (by omega)]
        rcases isBit_cases hbit with e | e <;> rw [e]
        · rw [if_pos (by decide)]; rfl
        · rw [if_neg (by decide), if_pos (by decide)]; rfl
      | false =>
        refine Ev.step (f := fun _ => some (isBits s)) (fun k => ?_) (Ev.now _)
        simp only [spec_l1okBits.l0]
        obtain ⟨h1, h2⟩ := not_bit hbit
        rw [if_pos (by omega), if_pos (by omega), bt_eq s i hp, if_neg (by omega), if_neg (by omega), isBits_not s hp hbit]
  by_cases c : s.size ≤ lim
  · rw [decide_eq_true c, Bool.true_and]
    refine Ev.congr (fun k => ?_) (loop c s.size 0 (by omega) (bitsTo_zero s))
    unfold spec_l1okBits.f
    rw [if_neg (by omega)]; rfl
  · rw [decide_eq_false c, Bool.false_and]
    refine Ev.congr (f := fun _ => some false) (fun k => ?_) (Ev.now _)
    unfold spec_l1okBits.f
    rw [if_pos (by omega)]
end Go.Proofs.Ytdoclpgciadjaaa.P

namespace Go.Proofs.Ytdoclpgciadjaaa.P
open Go Go.RowKit Go.Proofs.YtdoclpgciadjaaaW.PrintWords
set_option linter.unusedVariables false
/-! ### spec.Crc15 is the register's sum -/
theorem b2_xor (a b : Bool) : bits .xor .u8 (b2 a) (b2 b) = b2 (a ^^ b) := by cases a <;> cases b <;> decide
theorem gtext (j : Nat) (h : j < 16) : (bt (⟨#[49, 49, 48, 48, 48, 49, 48, 49, 49, 48, 48, 49, 49, 48, 48, 49]⟩ : ByteArray) (j : Int) - 48) % 256 = b2 (Nat.testBit 50585 (15 - j)) := by
  have : ∀ j : Fin 16, (bt (⟨#[49, 49, 48, 48, 48, 49, 48, 49, 49, 48, 48, 49, 49, 48, 48, 49]⟩ : ByteArray) ((j.val : Nat) : Int) - 48) % 256 = b2 (Nat.testBit 50585 (15 - j.val)) := by decide +kernel
  exact this ⟨j, h⟩
/-- What the list holds at the head of the division's round i: letter by letter. -/
def phi (s : ByteArray) (i t : Nat) : Bool := (decide (t < i + 15) && (crcL ((bytesOf s).take i)).testBit (14 - (t - i))) ^^ (decide (t < s.size) && bitB (bt s (t : Int)))
def Holds (v : List Int) (n : Nat) (from_ : Nat) (φ : Nat → Bool) : Prop := v.length = n ∧ ∀ t, from_ ≤ t → t < n → rd v (t : Int) = b2 (φ t)
set_option linter.unusedSectionVars false
section
variable (s : ByteArray) (hs : s.size ≤ 2000) (hb : isBits s = true)
include hs hb
omit hs in
theorem bit_at (t : Nat) (ht : t < s.size) : bt s (t : Int) = 48 ∨ bt s (t : Int) = 49 := by
  rw [bt_eq s t ht]
  rcases isBit_cases (isBits_at hb ht) with e | e <;> rw [e]
  · exact .inl rfl
  · exact .inr rfl
omit hs hb in
theorem phi_step (i t : Nat) (hi : i < s.size) (ht : i + 1 ≤ t) (ht2 : t < s.size + 15) :
    phi s (i + 1) t = (phi s i t ^^ (phi s i i && decide (t < i + 16) && Nat.testBit 50585 (15 - (t - i)))) := by
  have hl : i < (bytesOf s).length := by rw [bytesOf_length]; exact hi
  have h1 : crcL ((bytesOf s).take (i + 1)) = crcN (crcL ((bytesOf s).take i)) (bitN (bt s (i : Int))) := by
    rw [List.take_succ_eq_append_getElem hl, crcL_snoc, bytesOf_get]
  have hb1 : bitN (bt s (i : Int)) ≤ 1 := by unfold bitN; split <;> omega
  have hbd : decide (bitN (bt s (i : Int)) = 1) = bitB (bt s (i : Int)) := by unfold bitN bitB; split <;> simp [*]
  unfold phi
  rw [h1]
  have hR : crcL ((bytesOf s).take i) < 32768 := crcL_lt _
  generalize crcL ((bytesOf s).take i) = R at *
  rw [decide_eq_true (show i < i + 15 by omega), decide_eq_true hi, Nat.sub_self, Bool.true_and, Bool.true_and]
  by_cases h : t < i + 16
  · obtain ⟨j, hj, hj15⟩ : ∃ j, t = i + 15 - j ∧ j < 15 := ⟨i + 15 - t, by omega, by omega⟩
    subst hj
    rw [show 14 - (i + 15 - j - (i + 1)) = j by omega, crcN_testBit R _ hR hb1 j hj15, hbd, show 15 - (i + 15 - j - i) = j by omega, decide_eq_true (show i + 15 - j < i + 1 + 15 by omega)]
    have hg : Nat.testBit 50585 j = Nat.testBit 17817 j := by
      have : ∀ j : Fin 15, Nat.testBit 50585 j.val = Nat.testBit 17817 j.val := by decide
      exact this ⟨j, hj15⟩
    rw [hg]
    by_cases h0 : 0 < j
    · rw [decide_eq_true h0, decide_eq_true (show i + 15 - j < i + 15 by omega), show 14 - (i + 15 - j - i) = j - 1 by omega]
      simp only [Bool.true_and, Bool.and_true]
      cases R.testBit (j - 1) <;> cases R.testBit 14 <;> cases bitB (bt s (i : Int)) <;> cases Nat.testBit 17817 j <;> simp
    · rw [decide_eq_false h0, decide_eq_false (show ¬ i + 15 - j < i + 15 by omega)]
      simp only [Bool.true_and, Bool.and_true, Bool.false_and]
      cases R.testBit 14 <;> cases bitB (bt s (i : Int)) <;> cases Nat.testBit 17817 j <;> simp
  · rw [decide_eq_false (show ¬ t < i + 1 + 15 by omega), decide_eq_false (show ¬ t < i + 15 by omega)]
    simp
theorem l4_ev (v : List Int) (R : Nat) (hR : R < 32768) (hv : Holds v (s.size + 15) s.size (fun t => R.testBit (14 - (t - s.size)))) :
    ∀ (d j : Nat), j + d = 15 → Ev (fun k => spec_Crc15.l4 k v ((R >>> (15 - j) : Nat) : Int) ((s.size + j : Nat) : Int)) (R : Int) := by
  obtain ⟨hl, hv⟩ := hv
  intro d
  induction d with
  | zero =>
    intro j hj
    refine Ev.step (f := fun _ => some (R : Int)) (fun k => ?_) (Ev.now _)
    simp only [spec_Crc15.l4]
    rw [if_neg (by omega), show 15 - j = 0 by omega, Nat.shiftRight_zero]
  | succ d ih =>
    intro j hj
    refine Ev.step (f := fun k => spec_Crc15.l4 k v ((R >>> (15 - (j + 1)) : Nat) : Int) ((s.size + (j + 1) : Nat) : Int)) (fun k => ?_) (ih (j + 1) (by omega))
    have hb0 : (R >>> (15 - j)) < 32768 := Nat.lt_of_le_of_lt (Nat.shiftRight_le _ _) hR
    have hx : R >>> (15 - (j + 1)) = 2 * (R >>> (15 - j)) + (R.testBit (14 - j)).toNat := by
      have e : 15 - j = (14 - j) + 1 := by omega
      rw [show 15 - (j + 1) = 14 - j by omega, e, Nat.shiftRight_succ, Nat.testBit_eq_decide_div_mod_eq, Nat.shiftRight_eq_div_pow]
      generalize R / 2 ^ (14 - j) = q
      by_cases h : q % 2 = 1
      · rw [decide_eq_true h]; simp; omega
      · rw [decide_eq_false h]; simp; omega
    have hr : rd v ((s.size + j : Nat) : Int) = (((R.testBit (14 - j)).toNat : Nat) : Int) := by
      rw [hv (s.size + j) (by omega) (by omega)]; dsimp only; rw [show s.size + j - s.size = j by omega]
      unfold b2
      cases R.testBit (14 - j) <;> rfl
    have ht : (R.testBit (14 - j)).toNat ≤ 1 := Bool.toNat_le _
    simp only [spec_Crc15.l4]
    rw [if_pos (by omega), if_pos (by omega), hr, w64 (x := 2 * _) (by omega) (by omega), w64 (x := (((R.testBit (14 - j)).toNat : Nat) : Int)) (by omega) (by omega), w64 (by omega) (by omega), w64 (by omega) (by omega), hx]
    push_cast
    rfl
theorem l3_ev (i : Nat) (hi : i < s.size) (φ : Nat → Bool) (r : Int)
    (next : ∀ v, Holds v (s.size + 15) (i + 1) (fun t => φ t ^^ (decide (t < i + 16) && Nat.testBit 50585 (15 - (t - i)))) → Ev (fun k => spec_Crc15.l2 k v (⟨#[49, 49, 48, 48, 48, 49, 48, 49, 49, 48, 48, 49, 49, 48, 48, 49]⟩ : ByteArray) ((i + 1 : Nat) : Int)) r) :
    ∀ (d j : Nat) (v : List Int), j + d = 16 → Holds v (s.size + 15) i (fun t => φ t ^^ (decide (t < i + j) && Nat.testBit 50585 (15 - (t - i)))) → Ev (fun k => spec_Crc15.l3 k v (⟨#[49, 49, 48, 48, 48, 49, 48, 49, 49, 48, 48, 49, 49, 48, 48, 49]⟩ : ByteArray) (i : Int) (j : Int)) r := by
  intro d
  induction d with
  | zero =>
    intro j v hj hv
    obtain rfl : j = 16 := by omega
    refine Ev.step (f := fun k => spec_Crc15.l2 k v (⟨#[49, 49, 48, 48, 48, 49, 48, 49, 49, 48, 48, 49, 49, 48, 48, 49]⟩ : ByteArray) ((i + 1 : Nat) : Int)) (fun k => ?_) (next v ⟨hv.1, fun t h1 h2 => hv.2 t (by omega) h2⟩)
    simp only [spec_Crc15.l3]
    rw [if_neg (by omega), w64 (by omega) (by omega)]
    rfl
  | succ d ih =>
    intro j v hj hv
    obtain ⟨hl, hv⟩ := hv
    have hg := gtext j (by omega)
    have hx : bits .xor .u8 (rd v ((i + j : Nat) : Int)) (b2 (Nat.testBit 50585 (15 - j))) = b2 (φ (i + j) ^^ Nat.testBit 50585 (15 - j)) := by
      rw [hv (i + j) (by omega) (by omega)]; dsimp only; rw [decide_eq_false (show ¬ i + j < i + j by omega), Bool.false_and, Bool.xor_false, b2_xor]
    refine Ev.step (f := fun k => spec_Crc15.l3 k (v.set (i + j) (b2 (φ (i + j) ^^ Nat.testBit 50585 (15 - j)))) (⟨#[49, 49, 48, 48, 48, 49, 48, 49, 49, 48, 48, 49, 49, 48, 48, 49]⟩ : ByteArray) (i : Int) ((j + 1 : Nat) : Int)) (fun k => ?_) (ih (j + 1) _ (by omega) ⟨by rw [List.length_set]; exact hl, fun t h1 h2 => ?_⟩)
    · simp only [spec_Crc15.l3]
      rw [w64 (x := (i : Int) + (j : Int)) (by omega) (by omega), show (i : Int) + (j : Int) = ((i + j : Nat) : Int) by omega, if_pos (by omega), if_pos (by omega), if_pos (by omega), if_pos (by omega), if_pos (by rw [show (ByteArray.size _ : Nat) = 16 from rfl]; omega), hg, hx, w64 (by omega) (by omega)]
      rfl
    · rw [rd_set v (i + j) _ t (by omega)]
      by_cases e : t = i + j
      · subst e
        rw [if_pos rfl]; dsimp only; rw [decide_eq_true (show i + j < i + (j + 1) by omega), Bool.true_and, show i + j - i = j by omega]
      · rw [if_neg e, hv t h1 h2]
        dsimp only
        rw [show decide (t < i + j) = decide (t < i + (j + 1)) from decide_eq_decide.2 ⟨fun _ => by omega, fun _ => by omega⟩]
theorem l2_ev : ∀ (d i : Nat) (v : List Int), i + d = s.size → Holds v (s.size + 15) i (phi s i) → Ev (fun k => spec_Crc15.l2 k v (⟨#[49, 49, 48, 48, 48, 49, 48, 49, 49, 48, 48, 49, 49, 48, 48, 49]⟩ : ByteArray) (i : Int)) (crcL (bytesOf s) : Int) := by
  intro d
  induction d with
  | zero =>
    intro i v hi hv
    obtain rfl : i = s.size := by omega
    have h4 := l4_ev s hs hb (v := v) (crcL (bytesOf s)) (crcL_lt _) ⟨hv.1, fun t h1 h2 => by
      rw [hv.2 t h1 h2]; unfold phi; dsimp only
      rw [decide_eq_false (show ¬ t < s.size by omega), decide_eq_true (show t < s.size + 15 by omega), List.take_of_length_le (by rw [bytesOf_length]; omega)]; simp⟩ 15 0 (by omega)
    refine Ev.step (f := fun k => spec_Crc15.l4 k v ((crcL (bytesOf s) >>> (15 - 0) : Nat) : Int) ((s.size + 0 : Nat) : Int)) (fun k => ?_) h4
    have hz : crcL (bytesOf s) >>> (15 - 0) = 0 := by rw [Nat.shiftRight_eq_div_pow]; have := crcL_lt (bytesOf s); omega
    have hl := hv.1
    simp only [spec_Crc15.l2]
    rw [w64 (by omega) (by omega), if_neg (by omega), hz, hl, w64 (by omega) (by omega), show ((s.size + 15 : Nat) : Int) - 15 = ((s.size + 0 : Nat) : Int) by omega]
    rfl
  | succ d ih =>
    intro i v hi hv
    have hl := hv.1
    have his : i < s.size := by omega
    have hr : rd v (i : Int) = b2 (phi s i i) := hv.2 i (by omega) (by omega)
    cases hp : phi s i i with
    | true =>
      refine Ev.step (f := fun k => spec_Crc15.l3 k v (⟨#[49, 49, 48, 48, 48, 49, 48, 49, 49, 48, 48, 49, 49, 48, 48, 49]⟩ : ByteArray) (i : Int) ((0 : Nat) : Int)) (fun k => ?_) (l3_ev s hs hb i his (phi s i) _ (fun v' hv' => ih (i + 1) v' (by omega) ⟨hv'.1, fun t h1 h2 => ?_⟩) 16 0 v (by omega) ⟨hl, fun t h1 h2 => ?_⟩)
      · simp only [spec_Crc15.l2]
        rw [w64 (by omega) (by omega), if_pos (by omega), if_pos (by omega), if_pos (by omega), hr, hp, if_pos (show b2 true = 1 from rfl)]
        rfl
      · rw [hv'.2 t h1 h2]; dsimp only; rw [phi_step s i t his h1 h2, hp, Bool.true_and]
      · rw [hv.2 t h1 h2]; dsimp only; rw [decide_eq_false (show ¬ t < i + 0 by omega), Bool.false_and, Bool.xor_false]
    | false =>
      refine Ev.step (f := fun k => spec_Crc15.l2 k v (⟨#[49, 49, 48, 48, 48, 49, 48, 49, 49, 48, 48, 49, 49, 48, 48, 49]⟩ : ByteArray) ((i + 1 : Nat) : Int)) (fun k => ?_) (ih (i + 1) v (by omega) ⟨hl, fun t h1 h2 => ?_⟩)
      · simp only [spec_Crc15.l2]
        rw [w64 (x := (i : Int) + 15) (by omega) (by omega), if_pos (by omega), if_pos (by omega), if_pos (by omega), hr, hp, if_neg (by decide), w64 (by omega) (by omega)]
        rfl
      · rw [hv.2 t (by omega) h2, phi_step s i t his h1 h2, hp]; simp
theorem l1_ev (φ : Nat → Bool) (hφ : ∀ t, s.size ≤ t → φ t = false) (r : Int) (next : ∀ v, Holds v (s.size + 15) 0 φ → Ev (fun k => spec_Crc15.l2 k v (⟨#[49, 49, 48, 48, 48, 49, 48, 49, 49, 48, 48, 49, 49, 48, 48, 49]⟩ : ByteArray) 0) r) :
    ∀ (d j : Nat) (v : List Int), j + d = 15 → Holds v (s.size + j) 0 φ → Ev (fun k => spec_Crc15.l1 k v (j : Int)) r := by
  intro d
  induction d with
  | zero =>
    intro j v hj hv
    obtain rfl : j = 15 := by omega
    refine Ev.step (fun k => ?_) (next v hv)
    simp only [spec_Crc15.l1]
    rw [if_neg (by omega)]
  | succ d ih =>
    intro j v hj hv
    obtain ⟨hl, hv⟩ := hv
    refine Ev.step (f := fun k => spec_Crc15.l1 k (v ++ [0]) ((j + 1 : Nat) : Int)) (fun k => ?_) (ih (j + 1) _ (by omega) ⟨by rw [List.length_append, hl]; simp; omega, fun t h1 h2 => ?_⟩)
    · simp only [spec_Crc15.l1]
      rw [if_pos (by omega), if_pos (by omega), w64 (by omega) (by omega)]
      rfl
    · rw [rd_snoc]
      by_cases h : t < v.length
      · rw [if_pos h, hv t h1 (by omega)]
      · rw [if_neg h, if_pos (by omega), hφ t (by omega)]; rfl
theorem l0_ev (r : Int) (next : ∀ v, Holds v s.size 0 (fun t => decide (t < s.size) && bitB (bt s (t : Int))) → Ev (fun k => spec_Crc15.l1 k v 0) r) :
    ∀ (d i : Nat) (v : List Int), i + d = s.size → Holds v i 0 (fun t => decide (t < s.size) && bitB (bt s (t : Int))) → Ev (fun k => spec_Crc15.l0 k s v (i : Int)) r := by
  intro d
  induction d with
  | zero =>
    intro i v hi hv
    obtain rfl : i = s.size := by omega
    refine Ev.step (fun k => ?_) (next v hv)
    simp only [spec_Crc15.l0]
    rw [if_neg (by omega)]
  | succ d ih =>
    intro i v hi hv
    obtain ⟨hl, hv⟩ := hv
    have hx : (bt s (i : Int) - 48) % 256 = b2 (bitB (bt s (i : Int))) := by
      rcases bit_at s hb i (by omega) with e | e <;> rw [e] <;> decide
    refine Ev.step (f := fun k => spec_Crc15.l0 k s (v ++ [b2 (bitB (bt s (i : Int)))]) ((i + 1 : Nat) : Int)) (fun k => ?_) (ih (i + 1) _ (by omega) ⟨by rw [List.length_append, hl]; rfl, fun t h1 h2 => ?_⟩)
    · simp only [spec_Crc15.l0]
      rw [if_pos (by omega), if_pos (by omega), if_pos (by omega), w64 (by omega) (by omega), hx]
      rfl
    · rw [rd_snoc]
      by_cases h : t < v.length
      · rw [if_pos h, hv t h1 (by omega)]
      · obtain rfl : t = i := by omega
        rw [if_neg h, if_pos hl.symm]; dsimp only; rw [decide_eq_true (show t < s.size by omega), Bool.true_and]
end
/-- What Crc15 says of a text. -/
def crcV (s : ByteArray) : Int := if s.size ≤ 2000 ∧ isBits s = true then (crcL (bytesOf s) : Int) else -1
theorem specCrc15_ev (s : ByteArray) (h : s.size < 100000000) : Ev (fun k => spec_Crc15.f k s) (crcV s) := by
  have hk := okBits_ev s 2000 (by omega)
  unfold crcV
  by_cases c : s.size ≤ 2000 ∧ isBits s = true
  · rw [if_pos c]
    rw [c.2, decide_eq_true c.1] at hk
    refine Ev.congr (fun k => rfl) (Ev.bind (f := fun k t => if t = true then spec_Crc15.l0 k s ([] : List Int) 0 else some (-1)) hk ?_)
    simp only [Bool.and_self, if_true]
    refine l0_ev s c.1 c.2 _ (fun v hv => l1_ev s c.1 c.2 _ (fun t ht => by rw [decide_eq_false (by omega)]; rfl) _ (fun v' hv' => l2_ev s c.1 c.2 s.size 0 v' (by omega) ⟨hv'.1, fun t h1 h2 => ?_⟩) 15 0 v (by omega) hv) s.size 0 [] (by omega) ⟨rfl, fun t h1 h2 => by omega⟩
    rw [hv'.2 t h1 h2]; dsimp only; unfold phi
    rw [List.take_zero]
    simp [crcL]
  · rw [if_neg c]
    have hf : (decide (s.size ≤ 2000) && isBits s) = false := by
      rw [Bool.and_eq_false_iff]
      by_cases hh : isBits s = true
      · exact .inl (decide_eq_false fun h2 => c ⟨h2, hh⟩)
      · exact .inr (by simpa using hh)
    rw [hf] at hk
    exact Ev.congr (fun k => rfl) (Ev.bind (f := fun k t => if t = true then spec_Crc15.l0 k s ([] : List Int) 0 else some (-1)) hk (Ev.now _))
theorem crcOf_eq (s : ByteArray) (h : isBits s = true) : crcOf s = (crcL (bytesOf s) : Int) := by
  refine crcI_list _ fun c hc => ?_
  obtain ⟨i, hi, rfl⟩ := List.getElem_of_mem hc
  rw [bytesOf_get]
  exact bit_at s h i (by rw [bytesOf_length] at hi; exact hi)
end Go.Proofs.Ytdoclpgciadjaaa.P

namespace Go.Proofs.Ytdoclpgciadjaaa.P
open Go Go.RowKit Go.Proofs.YtdoclpgciadjaaaW.PrintWords
set_option linter.unusedVariables false
/-! ### How many equal letters stand last -/
structure Trail (l : List Int) (n run : Nat) (last : Int) : Prop where
  le : n ≤ l.length
  run_le : run ≤ n
  same : ∀ j, n - run ≤ j → j < n → rd l (j : Int) = last
  other : run < n → rd l ((n - run - 1 : Nat) : Int) ≠ last
  pos : 0 < n → 0 < run
theorem Trail.zero (l : List Int) (last : Int) : Trail l 0 0 last := ⟨Nat.zero_le _, Nat.le_refl _, fun j _ h => absurd h (Nat.not_lt_zero j), fun h => absurd h (Nat.lt_irrefl _), fun h => absurd h (Nat.lt_irrefl _)⟩
theorem Trail.next {l : List Int} {n run : Nat} {last : Int} (h : Trail l n run last) (hn : n < l.length) : Trail l (n + 1) (if rd l (n : Int) = last then run + 1 else 1) (rd l (n : Int)) := by
  have hr := h.run_le
  by_cases c : rd l (n : Int) = last
  · rw [if_pos c]
    refine ⟨by omega, by omega, fun j h1 h2 => ?_, fun h1 => ?_, fun _ => by omega⟩
    · by_cases e : j = n
      · rw [e]
      · rw [h.same j (by omega) (by omega), c]
    · rw [show n + 1 - (run + 1) - 1 = n - run - 1 by omega, c]
      exact h.other (by omega)
  · rw [if_neg c]
    refine ⟨by omega, by omega, fun j h1 h2 => ?_, fun h1 => ?_, fun _ => by omega⟩
    · rw [show j = n by omega]
    · rw [show n + 1 - 1 - 1 = n - 1 by omega]
      have hp := h.pos (by omega)
      rw [h.same (n - 1) (by omega) (by omega)]
      exact fun e => c e.symm
theorem rd_append (l m : List Int) (j : Nat) (h : j < l.length) : rd (l ++ m) (j : Int) = rd l (j : Int) := by
  unfold rd
  rw [Int.toNat_natCast, List.getD_eq_getElem?_getD, List.getD_eq_getElem?_getD, List.getElem?_append_left h]
theorem rd_last (l : List Int) (c : Int) : rd (l ++ [c]) (l.length : Int) = c := by
  rw [rd_snoc, if_neg (Nat.lt_irrefl _), if_pos rfl]
theorem Trail.append {l : List Int} {n run : Nat} {last : Int} (h : Trail l n run last) (m : List Int) : Trail (l ++ m) n run last := by
  have := h.le
  refine ⟨by rw [List.length_append]; omega, h.run_le, fun j h1 h2 => ?_, fun h1 => ?_, h.pos⟩
  · rw [rd_append l m j (by omega)]; exact h.same j h1 h2
  · rw [rd_append l m _ (by omega)]; exact h.other h1
theorem Trail.snoc {l : List Int} {run : Nat} {last : Int} (h : Trail l l.length run last) (c : Int) : Trail (l ++ [c]) (l.length + 1) (if c = last then run + 1 else 1) c := by
  have h1 := (h.append [c]).next (by simp)
  rw [rd_last] at h1
  exact h1
/-- Five equal letters stand last, or not: what is compared, one behind the other. -/
theorem Trail.five {l : List Int} {n run : Nat} {last : Int} (h : Trail l n run last) (h5 : run ≤ 5) (hn : 5 ≤ n) :
    (run = 5 ↔ (rd l ((n - 1 : Nat) : Int) = rd l ((n - 2 : Nat) : Int) ∧ rd l ((n - 2 : Nat) : Int) = rd l ((n - 3 : Nat) : Int) ∧ rd l ((n - 3 : Nat) : Int) = rd l ((n - 4 : Nat) : Int) ∧ rd l ((n - 4 : Nat) : Int) = rd l ((n - 5 : Nat) : Int))) := by
  have hp := h.pos (by omega)
  have e1 := h.same (n - 1) (by omega) (by omega)
  constructor
  · intro e
    subst e
    have e2 := h.same (n - 2) (by omega) (by omega)
    have e3 := h.same (n - 3) (by omega) (by omega)
    have e4 := h.same (n - 4) (by omega) (by omega)
    have e5 := h.same (n - 5) (by omega) (by omega)
    rw [e1, e2, e3, e4, e5]
    exact ⟨rfl, rfl, rfl, rfl⟩
  · rintro ⟨a1, a2, a3, a4⟩
    rcases Nat.lt_or_ge run 5 with hlt | hge
    · exfalso
      have ho := h.other (by omega)
      have hc : run = 1 ∨ run = 2 ∨ run = 3 ∨ run = 4 := by omega
      rcases hc with rfl | rfl | rfl | rfl
      · exact ho (by rw [show n - 1 - 1 = n - 2 by omega, ← a1, e1])
      · exact ho (by rw [show n - 2 - 1 = n - 3 by omega, ← a2, ← a1, e1])
      · exact ho (by rw [show n - 3 - 1 = n - 4 by omega, ← a3, ← a2, ← a1, e1])
      · exact ho (by rw [show n - 4 - 1 = n - 5 by omega, ← a4, ← a3, ← a2, ← a1, e1])
    · omega
end Go.Proofs.Ytdoclpgciadjaaa.P

namespace Go.Proofs.Ytdoclpgciadjaaa.P
open Go Go.RowKit Go.Proofs.YtdoclpgciadjaaaW.PrintWords
set_option linter.unusedVariables false
theorem due_eq {l : List Int} {n run : Nat} {last : Int} (h : Trail l n run last) (h5 : run ≤ 5) (hn : n < 100000000) : spec_l1due.f l (n : Int) = some (decide (run = 5)) := by
  have hle := h.le
  have hr := h.run_le
  unfold spec_l1due.f
  by_cases c : n < 5
  · rw [if_pos (by omega), decide_eq_false (by omega)]
  · have hf := h.five h5 (by omega)
    have w1 : wrap64 ((n : Int) - 1) = ((n - 1 : Nat) : Int) := by unfold wrap64; omega
    have w2 : wrap64 ((n : Int) - 2) = ((n - 2 : Nat) : Int) := by unfold wrap64; omega
    have w3 : wrap64 ((n : Int) - 3) = ((n - 3 : Nat) : Int) := by unfold wrap64; omega
    have w4 : wrap64 ((n : Int) - 4) = ((n - 4 : Nat) : Int) := by unfold wrap64; omega
    have w5 : wrap64 ((n : Int) - 5) = ((n - 5 : Nat) : Int) := by unfold wrap64; omega
    rw [if_neg (by omega), w1, w2, w3, w4, w5, if_pos (by omega), if_pos (by omega), if_pos (by omega), if_pos (by omega)]
    by_cases a1 : rd l ((n - 1 : Nat) : Int) = rd l ((n - 2 : Nat) : Int)
    · rw [if_pos a1, if_pos (by omega), if_pos (by omega)]
      by_cases a2 : rd l ((n - 2 : Nat) : Int) = rd l ((n - 3 : Nat) : Int)
      · rw [if_pos a2, if_pos (by omega), if_pos (by omega)]
        by_cases a3 : rd l ((n - 3 : Nat) : Int) = rd l ((n - 4 : Nat) : Int)
        · rw [if_pos a3, if_pos (by omega), if_pos (by omega)]
          by_cases a4 : rd l ((n - 4 : Nat) : Int) = rd l ((n - 5 : Nat) : Int)
          · rw [decide_eq_true (hf.2 ⟨a1, a2, a3, a4⟩), a4]; simp
          · rw [decide_eq_false (fun e => a4 (hf.1 e).2.2.2)]; simp [a4]
        · rw [if_neg a3, decide_eq_false (fun e => a3 (hf.1 e).2.2.1)]
      · rw [if_neg a2, decide_eq_false (fun e => a2 (hf.1 e).2.1)]
    · rw [if_neg a1, decide_eq_false (fun e => a1 (hf.1 e).1)]
end Go.Proofs.Ytdoclpgciadjaaa.P

namespace Go.Proofs.Ytdoclpgciadjaaa.P
open Go Go.RowKit Go.Proofs.YtdoclpgciadjaaaW.PrintWords
set_option linter.unusedVariables false
/-- What Stuff says of a text. -/
def stuffV (s : ByteArray) : ByteArray := if s.size ≤ 2000 ∧ isBits s = true then strOfNums (stuffL (bytesOf s)) else ⟨#[]⟩
structure StuffOk (st : List Int × Int × Int) (run : Nat) : Prop where
  trail : Trail st.1 st.1.length run st.2.2
  run_eq : st.2.1 = (run : Int)
  run_le : run ≤ 4
theorem StuffOk.zero : StuffOk ([], 0, 120) 0 := ⟨Trail.zero _ _, rfl, by omega⟩
theorem StuffOk.step {st : List Int × Int × Int} {run : Nat} (h : StuffOk st run) (c : Int) (hc : c = 48 ∨ c = 49) :
    (stuffStep st c).1 = (if (if c = st.2.2 then run + 1 else 1) = 5 then st.1 ++ [c] ++ [97 - c] else st.1 ++ [c]) ∧ ∃ run', StuffOk (stuffStep st c) run' := by
  obtain ⟨ht, he, hl⟩ := h
  have hs := ht.snoc c
  have e1 : (if c = st.2.2 then st.2.1 + 1 else 1) = (((if c = st.2.2 then run + 1 else 1 : Nat)) : Int) := by split <;> omega
  have h5 : (if c = st.2.2 then run + 1 else 1 : Nat) ≤ 5 := by split <;> omega
  unfold stuffStep
  rw [e1]
  generalize (if c = st.2.2 then run + 1 else 1 : Nat) = q at *
  by_cases h : q = 5
  · rw [if_pos (by omega), if_pos h]
    refine ⟨rfl, 1, ?_, rfl, by omega⟩
    have hs2 : Trail (st.1 ++ [c]) (st.1 ++ [c]).length q c := by rw [List.length_append]; exact hs
    have h3 := hs2.snoc (97 - c)
    rw [if_neg (by omega)] at h3
    simp only []
    rw [List.length_append]
    exact h3
  · rw [if_neg (by omega), if_neg h]
    refine ⟨rfl, q, ?_, rfl, by omega⟩
    simp only []
    rw [List.length_append]
    exact hs
theorem specStuff_ev (s : ByteArray) (h : s.size < 100000000) : Ev (fun k => spec_Stuff.f k s) (stuffV s) := by
  have hk := okBits_ev s 2000 (by omega)
  unfold stuffV
  by_cases c : s.size ≤ 2000 ∧ isBits s = true
  · rw [if_pos c]
    obtain ⟨hs, hb⟩ := c
    rw [hb, decide_eq_true hs] at hk
    refine Ev.congr (fun k => by unfold spec_Stuff.f; rfl) (Ev.bind hk (ev_pos rfl ?_))
    have loop : ∀ (d i run : Nat), i + d = s.size → StuffOk (stuffTo s i) run → Ev (fun k => spec_Stuff.l0 k s (stuffTo s i).1 (i : Int)) (strOfNums (stuffL (bytesOf s))) := by
      intro d
      induction d with
      | zero =>
        intro i run hi _
        refine Ev.step (f := fun _ => some (strOfNums (stuffL (bytesOf s)))) (fun k => ?_) (Ev.now _)
        simp only [spec_Stuff.l0]
        rw [if_neg (by omega), stuffTo_end s i (by omega)]
      | succ d ih =>
        intro i run hi ho
        have his : i < s.size := by omega
        have hbit := isBit_cases (isBits_at hb his)
        obtain ⟨b, hbe, hb2⟩ : ∃ b : Nat, (s[i]'his).toNat = b ∧ (b = 48 ∨ b = 49) := ⟨_, rfl, by rcases hbit with e | e <;> rw [e] <;> decide⟩
        have hbt : bt s (i : Int) = (b : Int) := by rw [bt_eq s i his, hbe]
        have hst := stuffTo_succ s i his hbe
        have hbd := (stuffTo_bounds s i).1
        have htr := ho.trail.snoc (b : Int)
        have hrl := ho.run_le
        obtain ⟨h1, run', h2⟩ := ho.step (b : Int) (by omega)
        rw [← hst] at h1 h2
        refine Ev.step (f := fun k => spec_Stuff.l0 k s (stuffTo s (i + 1)).1 ((i + 1 : Nat) : Int)) (fun k => ?_) (ih (i + 1) run' (by omega) h2)
        have hdue := due_eq (n := (stuffTo s i).1.length + 1) htr (by split <;> omega) (by omega)
        have hln : (((stuffTo s i).1 ++ [(b : Int)]).length : Int) = (((stuffTo s i).1.length + 1 : Nat) : Int) := by rw [List.length_append]; rfl
        simp only [spec_Stuff.l0]
        rw [if_pos (by omega), if_pos (by omega), if_pos (by omega), hbt, Option.bind_some, hln, hdue, Option.bind_some, w64 (by omega) (by omega), h1]
        by_cases h5 : (if (b : Int) = (stuffTo s i).2.2 then run + 1 else 1) = 5
        · rw [decide_eq_true h5, if_pos rfl, if_pos h5]
          have ho2 : spec_l1other.f (b : Int) = some (97 - (b : Int)) := by
            unfold spec_l1other.f
            rcases hb2 with rfl | rfl <;> rfl
          rw [ho2, Option.bind_some, if_pos (by omega)]
          rfl
        · rw [decide_eq_false h5, if_neg (by decide), if_neg h5]
          rfl
    have h0 := loop s.size 0 0 (by omega) (by rw [stuffTo_zero]; exact StuffOk.zero)
    rw [stuffTo_zero] at h0
    exact h0
  · rw [if_neg c]
    have hf : (decide (s.size ≤ 2000) && isBits s) = false := by
      rw [Bool.and_eq_false_iff]
      by_cases hh : isBits s = true
      · exact .inl (decide_eq_false fun h2 => c ⟨h2, hh⟩)
      · exact .inr (by simpa using hh)
    rw [hf] at hk
    exact Ev.congr (fun k => by unfold spec_Stuff.f; rfl) (Ev.bind hk (ev_neg (show ¬ (false = true) by decide) (Ev.now _)))
end Go.Proofs.Ytdoclpgciadjaaa.P

/- A frame's whole text, as the reference makes it. -/
namespace Go.Proofs.Ytdoclpgciadjaaa.P
open Go Go.RowKit Go.Proofs.YtdoclpgciadjaaaW.PrintWords
set_option linter.unusedVariables false
theorem one1 : (⟨#[49]⟩ : ByteArray) = strOfNums [49] := rfl
theorem one7 : (⟨#[49, 49, 49, 49, 49, 49, 49]⟩ : ByteArray) = strOfNums [49, 49, 49, 49, 49, 49, 49] := rfl
theorem specEncode_ev {e : Bool} {i : Int} {r : Bool} {d : Int} {l : List Int} (hq : 0 ≤ i ∧ okBytes l = true) : Ev (fun k => spec_Encode.f k e i r d l) (encodeV e i r d l) := by
  have h1 : spec_Body.f e i r d l = some (bodyV e i r d l) := by unfold spec_Body.f; rw [if_pos hq]
  unfold spec_Encode.f
  refine Ev.bind (specValid_ev e i r d l) ?_
  unfold encodeV
  cases hv : validF e i r d l.length with
  | false => exact ev_neg (by decide) (Ev.now _)
  | true =>
    obtain ⟨-, -, -, -, hn8⟩ := valid_parts hv
    have hB : bodyV e i r d l = strOfNums (bodyL e i r d l) := by unfold bodyV; rw [if_pos hv]
    have hbb := bodyL_bits e i r d l
    have hbl := bodyL_length e i r d l hn8
    have hpb := plainL_bits e i r d l
    have hpl := plainL_length e i r d l hn8
    rw [hB] at h1
    refine ev_pos rfl (ev_some h1 ?_)
    unfold plainL at hpb hpl ⊢
    generalize bodyL e i r d l = B at hbb hbl hpb hpl ⊢
    have hc : crcV (strOfNums B) = (crcL B : Int) := by
      unfold crcV
      rw [if_pos ⟨by rw [strOfNums_size]; omega, isBits_str hbb⟩, bytes_str B hbb.range]
    have hE := specCrc15_ev (strOfNums B) (by rw [strOfNums_size]; omega)
    rw [hc] at hE
    have hlt := crcL_lt B
    have hN : Ev (fun k => spec_l1num.f k (crcL B : Int) 15) (strOfNums (numL (crcL B) 15)) := l1num_ev 15 (crcL B) (by omega) (by omega)
    refine Ev.bind hE (Ev.bind hN (ev_pos (by rw [strOfNums_size, strOfNums_size, numL_length]; omega) ?_))
    rw [← str_append]
    generalize B ++ numL (crcL B) 15 = P at hpb hpl ⊢
    have hst : stuffV (strOfNums P) = strOfNums (stuffL P) := by
      unfold stuffV
      rw [if_pos ⟨by rw [strOfNums_size]; omega, isBits_str hpb⟩, bytes_str P hpb.range]
    have hS := specStuff_ev (strOfNums P) (by rw [strOfNums_size]; omega)
    rw [hst] at hS
    have hz := stuffL_len P
    refine Ev.bind hS ?_
    simp only [one1, one7, ← str_append, strOfNums_size, List.length_append, List.length_cons, List.length_nil]
    refine ev_pos (by omega) (ev_pos (by omega) (ev_pos (by omega) (ev_pos (by omega) ?_)))
    rw [if_pos trivial, show stuffL P ++ [49] ++ [49] ++ [49] ++ [49, 49, 49, 49, 49, 49, 49] = stuffL P ++ onesL by simp [onesL]]
    exact Ev.now _
end Go.Proofs.Ytdoclpgciadjaaa.P

namespace Go.Proofs.Ytdoclpgciadjaaa.P
open Go Go.RowKit Go.Proofs.YtdoclpgciadjaaaW.PrintWords
set_option linter.unusedVariables false


theorem eqUint64S_ev (l : List Int) (h : l.length ≤ 10000000) : Ev (fun k => laws_eqUint64S.f k l l) true := by
  have loop : ∀ (d i : Nat), i + d = l.length → Ev (fun k => laws_eqUint64S.l0 k l l (i : Int)) true := by
    intro d
    induction d with
    | zero =>
      intro i hi
      refine Ev.step (f := fun _ => some true) (fun k => ?_) (Ev.now _)
      simp only [laws_eqUint64S.l0]
      rw [if_neg (by omega)]
    | succ d ih =>
      intro i hi
      refine Ev.step (f := fun k => laws_eqUint64S.l0 k l l ((i + 1 : Nat) : Int)) (fun k => ?_) (ih (i + 1) (by omega))
      simp only [laws_eqUint64S.l0]
      rw [if_pos (by omega), if_pos (by omega), if_pos (by omega), if_pos trivial, w64 (by omega) (by omega)]
      rfl
  refine Ev.congr (fun k => ?_) (loop l.length 0 (by omega))
  unfold laws_eqUint64S.f
  rw [if_pos rfl]
  rfl

end Go.Proofs.Ytdoclpgciadjaaa.P

/- A text of bits in words: what the program's packer writes is what the reference counts. -/
namespace Go.Proofs.Ytdoclpgciadjaaa.P
open Go Go.RowKit Go.Proofs.YtdoclpgciadjaaaW.PrintWords
set_option linter.unusedVariables false
def bitAt (s : ByteArray) (i : Nat) : Nat := if i < s.size then (if rd (bytesOf s) (i : Int) = 49 then 1 else 0) else 0
theorem bitAt_le (s : ByteArray) (i : Nat) : bitAt s i ≤ 1 := by unfold bitAt; split <;> (try split) <;> omega
def wordTo (s : ByteArray) (k : Nat) : Nat → Nat
  | 0 => 0
  | j + 1 => 2 * wordTo s k j + bitAt s (64 * k + j)
theorem wordTo_lt (s : ByteArray) (k j : Nat) : wordTo s k j < 2 ^ j := by
  induction j with
  | zero => simp [wordTo]
  | succ j ih =>
    have := bitAt_le s (64 * k + j)
    rw [wordTo, Nat.pow_succ]
    omega
theorem wordTo_end (s : ByteArray) (k j : Nat) (h : s.size ≤ 64 * k + j) : ∀ d, wordTo s k (j + d) = wordTo s k j * 2 ^ d := by
  intro d
  induction d with
  | zero => simp
  | succ d ih =>
    have : bitAt s (64 * k + (j + d)) = 0 := by unfold bitAt; rw [if_neg (by omega)]
    rw [← Nat.add_assoc, wordTo, ih, this, Nat.pow_succ]
    rw [Nat.add_zero, Nat.mul_left_comm, Nat.mul_comm 2]
def wordN (s : ByteArray) (n k : Nat) : Nat := wordTo s k (min 64 (n - 64 * k)) * 2 ^ (64 - min 64 (n - 64 * k))
theorem wbit_at {s : ByteArray} (hB : isBits s = true) {n : Nat} (hn : n < s.size) : rd (bytesOf s) (n : Int) - 48 = (bitAt s n : Int) := by
  have h := isBit_cases (isBits_at hB hn)
  have e := rd_bytes8 s n hn
  unfold bitAt
  rw [if_pos hn]
  rcases h with h | h
  · rw [e, h]; rfl
  · rw [e, h]; rfl
theorem packTo_at (s : ByteArray) (hB : isBits s = true) : ∀ n, n ≤ s.size → ∀ k, k < (n + 63) / 64 → rd (packTo s n) (k : Int) = (wordN s n k : Int) := by
  intro n
  induction n with
  | zero => intro _ k hk; omega
  | succ n ih =>
    intro hn k hk
    have ih := ih (by omega)
    have hlen := packTo_length s n
    have hrow : ∀ t, t < n / 64 + 1 → rd (packRow (packTo s n) n) (t : Int) = (wordN s n t : Int) := by
      intro t ht
      unfold packRow
      by_cases c : n % 64 = 0
      · rw [if_pos c, rd_snoc]
        by_cases c1 : t < (packTo s n).length
        · rw [if_pos c1]; exact ih t (by omega)
        · rw [if_neg c1, if_pos (by omega)]
          unfold wordN
          rw [show n - 64 * t = 0 by omega, show min 64 0 = 0 from rfl, wordTo, Nat.zero_mul]
          rfl
      · rw [if_neg c]; exact ih t (by omega)
    have hrl : (packRow (packTo s n) n).length = n / 64 + 1 := by
      have := packBit_length (packTo s n) n 0
      have h2 := packTo_length s (n + 1)
      rw [packTo, packBit_length] at h2
      rw [h2]; omega
    rw [packTo, packBit, rd_set _ _ _ _ (by omega)]
    by_cases c : k = n / 64
    · rw [if_pos c, hrow _ (by omega), wbit_at hB (by omega)]
      subst c
      obtain ⟨j, hj⟩ : ∃ j, j = n % 64 := ⟨_, rfl⟩
      obtain ⟨q, hq⟩ : ∃ q, q = n / 64 := ⟨_, rfl⟩
      have hn2 : n = 64 * q + j := by omega
      have hj64 : j < 64 := by omega
      unfold wordN
      rw [← hj, ← hq, show min 64 (n - 64 * q) = j by omega, show min 64 (n + 1 - 64 * q) = j + 1 by omega, wordTo, ← hn2]
      have hw := wordTo_lt s q j
      have hb := bitAt_le s n
      have hp : 2 ^ (64 - j) = 2 * 2 ^ (63 - j) := by rw [show 64 - j = (63 - j) + 1 by omega, Nat.pow_succ]; omega
      have hbl : bitAt s n * 2 ^ (63 - j) < 2 ^ (64 - j) := by
        have : bitAt s n * 2 ^ (63 - j) ≤ 1 * 2 ^ (63 - j) := Nat.mul_le_mul_right _ hb
        have h0 : 0 < 2 ^ (63 - j) := Nat.pow_pos (by omega)
        omega
      have hle : (2 : Nat) ^ (64 - j) ≤ 2 ^ 64 := Nat.pow_le_pow_right (by omega) (by omega)
      have hwl : wordTo s q j * 2 ^ (64 - j) < 18446744073709551616 := by
        have h1 : wordTo s q j * 2 ^ (64 - j) < 2 ^ j * 2 ^ (64 - j) := Nat.mul_lt_mul_of_pos_right hw (Nat.pow_pos (by omega))
        rw [← Nat.pow_add, show j + (64 - j) = 64 by omega] at h1
        exact h1
      have hwr : IntKind.u64.wrap ((bitAt s n : Int) * 2 ^ (63 - j)) = ((bitAt s n * 2 ^ (63 - j) : Nat) : Int) := by
        rw [show (bitAt s n : Int) * 2 ^ (63 - j) = ((bitAt s n * 2 ^ (63 - j) : Nat) : Int) by rw [Int.natCast_mul, Int.natCast_pow]; rfl, IntKind.wrap_u64]
        have : bitAt s n * 2 ^ (63 - j) < 18446744073709551616 := Nat.lt_of_lt_of_le hbl hle
        omega
      rw [hwr, u64_or_nat _ _ hwl (Nat.lt_of_lt_of_le hbl hle), Nat.mul_comm (wordTo s q j), ← Nat.two_pow_add_eq_or_of_lt hbl, show 64 - (j + 1) = 63 - j by omega, hp]
      congr 1
      rw [Nat.add_mul, Nat.mul_comm (2 * 2 ^ (63 - j)), ← Nat.mul_assoc, Nat.mul_comm (wordTo s q j) 2]
    · rw [if_neg c, hrow k (by omega)]
      unfold wordN
      rw [show min 64 (n - 64 * k) = 64 by omega, show min 64 (n + 1 - 64 * k) = 64 by omega]
def specW (s : ByteArray) : Nat → List Int
  | 0 => []
  | k + 1 => specW s k ++ [(wordTo s k 64 : Int)]
theorem specW_length (s : ByteArray) (k : Nat) : (specW s k).length = k := by
  induction k with
  | zero => rfl
  | succ k ih => rw [specW, List.length_append, ih]; rfl
theorem specW_at (s : ByteArray) (k : Nat) : ∀ t, t < k → rd (specW s k) (t : Int) = (wordTo s t 64 : Int) := by
  induction k with
  | zero => intro t ht; omega
  | succ k ih =>
    intro t ht
    rw [specW, rd_snoc, specW_length]
    by_cases c : t < k
    · rw [if_pos c]; exact ih t c
    · rw [if_neg c, if_pos (by omega), show t = k by omega]
theorem rd_ext {a b : List Int} (hl : a.length = b.length) (h : ∀ t : Nat, t < a.length → rd a (t : Int) = rd b (t : Int)) : a = b := by
  refine List.ext_getElem? fun t => ?_
  by_cases c : t < a.length
  · rw [rd_get a t c, rd_get b t (by omega), h t c]
  · rw [List.getElem?_eq_none (by omega), List.getElem?_eq_none (by omega)]
theorem pack_spec (s : ByteArray) (hB : isBits s = true) : packTo s s.size = specW s ((s.size + 63) / 64) := by
  refine rd_ext (by rw [packTo_length, specW_length]) fun t ht => ?_
  rw [packTo_length] at ht
  rw [packTo_at s hB s.size (Nat.le_refl _) t ht, specW_at s _ t ht]
  unfold wordN
  have h := wordTo_end s t (min 64 (s.size - 64 * t)) 
  by_cases c : 64 ≤ s.size - 64 * t
  · rw [show min 64 (s.size - 64 * t) = 64 by omega]; simp
  · have h2 := h (by omega) (64 - min 64 (s.size - 64 * t))
    rw [show min 64 (s.size - 64 * t) + (64 - min 64 (s.size - 64 * t)) = 64 by omega] at h2
    rw [h2]
end Go.Proofs.Ytdoclpgciadjaaa.P

/- Packing, what both sides compute; marking and holding of words. -/
namespace Go.Proofs.Ytdoclpgciadjaaa.P
open Go Go.RowKit Go.Proofs.YtdoclpgciadjaaaW.PrintWords
set_option linter.unusedVariables false
theorem u64_small {x : Int} (h0 : 0 ≤ x) (h1 : x < 18446744073709551616) : IntKind.u64.wrap x = x := by rw [IntKind.wrap_u64]; omega
theorem spec_word (s : ByteArray) (hs : s.size ≤ 4000) (hB : isBits s = true) (x : List Int) (k : Nat) (hk : k < 100) (hx : x.length ≤ 100) (V : Int × List Int) (hE : Ev (fun m => spec_Pack.l0 m s (x ++ [(wordTo s k 64 : Int)]) ((k + 1 : Nat) : Int)) V) :
    ∀ (d j : Nat), j + d = 64 → Ev (fun m => spec_Pack.l1 m s x (k : Int) (wordTo s k j : Int) (j : Int)) V := by
  intro d
  induction d with
  | zero =>
    intro j hj
    obtain rfl : j = 64 := by omega
    refine Ev.step (f := fun m => spec_Pack.l0 m s (x ++ [(wordTo s k 64 : Int)]) ((k + 1 : Nat) : Int)) (fun m => ?_) hE
    simp only [spec_Pack.l1]
    rw [if_neg (by omega), if_pos (by omega), w64 (by omega) (by omega)]
    rfl
  | succ d ih =>
    intro j hj
    have hw := wordTo_lt s k j
    have hp : (2 : Nat) ^ j ≤ 2 ^ 63 := Nat.pow_le_pow_right (by omega) (by omega)
    have hw2 : wordTo s k j < 9223372036854775808 := Nat.lt_of_lt_of_le hw hp
    refine Ev.step (f := fun m => spec_Pack.l1 m s x (k : Int) (wordTo s k (j + 1) : Int) ((j + 1 : Nat) : Int)) (fun m => ?_) (ih (j + 1) (by omega))
    have e1 : wrap64 ((j : Int) + 1) = ((j + 1 : Nat) : Int) := by rw [w64 (by omega) (by omega)]; rfl
    have e2 : wrap64 ((wrap64 (64 * (k : Int))) + (j : Int)) = ((64 * k + j : Nat) : Int) := by rw [w64 (x := 64 * (k : Int)) (by omega) (by omega), w64 (by omega) (by omega)]; omega
    have e3 : IntKind.u64.wrap (2 * (wordTo s k j : Int)) = ((2 * wordTo s k j : Nat) : Int) := by rw [u64_small (by omega) (by omega)]; omega
    simp only [spec_Pack.l1]
    rw [if_pos (by omega), e1, e2, e3]
    by_cases c : 64 * k + j < s.size
    · rw [if_pos (by omega), if_pos (by omega)]
      have hb : bt s ((64 * k + j : Nat) : Int) = rd (bytesOf s) ((64 * k + j : Nat) : Int) := by rw [bt_eq s _ c, rd_bytes8 s _ c]
      rw [hb]
      by_cases c1 : rd (bytesOf s) ((64 * k + j : Nat) : Int) = 49
      · rw [if_pos c1, u64_small (by omega) (by omega)]
        have : bitAt s (64 * k + j) = 1 := by unfold bitAt; rw [if_pos c, if_pos c1]
        rw [wordTo, this]
        rfl
      · rw [if_neg c1]
        have : bitAt s (64 * k + j) = 0 := by unfold bitAt; rw [if_pos c, if_neg c1]
        rw [wordTo, this]
        rfl
    · rw [if_neg (by omega)]
      have : bitAt s (64 * k + j) = 0 := by unfold bitAt; rw [if_neg c]
      rw [wordTo, this]
      rfl
theorem spec_words (s : ByteArray) (hs : s.size ≤ 4000) (hB : isBits s = true) : ∀ (d k : Nat), k + d = (s.size + 63) / 64 → Ev (fun m => spec_Pack.l0 m s (specW s k) (k : Int)) ((s.size : Int), specW s ((s.size + 63) / 64)) := by
  intro d
  induction d with
  | zero =>
    intro k hk
    refine Ev.step (f := fun _ => some ((s.size : Int), specW s ((s.size + 63) / 64))) (fun m => ?_) (Ev.now _)
    simp only [spec_Pack.l0]
    have hk2 : k = (s.size + 63) / 64 := by omega
    rw [w64 (x := 64 * (k : Int)) (by omega) (by omega), if_neg (by omega), hk2]
  | succ d ih =>
    intro k hk
    refine Ev.step (f := fun m => spec_Pack.l1 m s (specW s k) (k : Int) (wordTo s k 0 : Int) ((0 : Nat) : Int)) (fun m => ?_) (spec_word s hs hB (specW s k) k (by omega) (by rw [specW_length]; omega) _ (ih (k + 1) (by omega)) 64 0 (by omega))
    simp only [spec_Pack.l0]
    rw [w64 (x := 64 * (k : Int)) (by omega) (by omega), if_pos (by omega)]
    rfl
def packV (s : ByteArray) : Int × List Int := if s.size ≤ 4000 ∧ isBits s = true then ((s.size : Int), packTo s s.size) else (0, [])
theorem specPack_ev (s : ByteArray) : Ev (fun m => spec_Pack.f m s) (packV s) := by
  have hk := okBits_ev s 4000 (by omega)
  unfold spec_Pack.f packV
  by_cases c : s.size ≤ 4000 ∧ isBits s = true
  · rw [decide_eq_true c.1, c.2] at hk
    refine Ev.bind hk (ev_pos rfl ?_)
    rw [if_pos c, pack_spec s c.2]
    exact spec_words s c.1 c.2 ((s.size + 63) / 64) 0 (by omega)
  · have : (decide (s.size ≤ 4000) && isBits s) = false := by
      rw [← Bool.not_eq_true, Bool.and_eq_true, decide_eq_true_eq]
      exact c
    rw [this] at hk
    refine Ev.bind hk (ev_neg (by decide) ?_)
    rw [if_neg c]
    exact Ev.now _
def mkL (k0 : Int) : Nat → List Int
  | 0 => []
  | n + 1 => mkL k0 n ++ [k0 + n]
theorem mkL_length (k0 : Int) (n : Nat) : (mkL k0 n).length = n := by
  induction n with
  | zero => rfl
  | succ n ih => rw [mkL, List.length_append, ih]; rfl
theorem mkL_at (k0 : Int) (n : Nat) : ∀ t, t < n → rd (mkL k0 n) (t : Int) = k0 + t := by
  induction n with
  | zero => intro t ht; omega
  | succ n ih =>
    intro t ht
    rw [mkL, rd_snoc, mkL_length]
    by_cases c : t < n
    · rw [if_pos c]; exact ih t c
    · rw [if_neg c, if_pos (by omega), show t = n by omega]
theorem mark_ev (l : List Int) (hl : l.length ≤ 1000) : Ev (fun m => laws_markUint64S.f m l 1) (1 + (l.length : Int), mkL 1 l.length) := by
  have loop : ∀ (d i : Nat) (x : List Int), i + d = l.length → x.length = l.length → (∀ t : Nat, t < i → rd x (t : Int) = 1 + t) → Ev (fun m => laws_markUint64S.l0 m x (1 + (i : Int)) (i : Int)) (1 + (l.length : Int), mkL 1 l.length) := by
    intro d
    induction d with
    | zero =>
      intro i x hi hx h
      refine Ev.step (f := fun _ => some (1 + (l.length : Int), mkL 1 l.length)) (fun m => ?_) (Ev.now _)
      simp only [laws_markUint64S.l0]
      rw [if_neg (by omega), show i = l.length by omega, rd_ext (a := x) (b := mkL 1 l.length) (by rw [mkL_length, hx]) (fun t ht => by rw [h t (by omega), mkL_at 1 _ t (by omega)])]
    | succ d ih =>
      intro i x hi hx h
      refine Ev.step (f := fun m => laws_markUint64S.l0 m (x.set i (1 + (i : Int))) (1 + ((i + 1 : Nat) : Int)) ((i + 1 : Nat) : Int)) (fun m => ?_) (ih (i + 1) _ (by omega) (by rw [List.length_set]; exact hx) (fun t ht => ?_))
      · simp only [laws_markUint64S.l0]
        rw [if_pos (by omega), if_pos (by omega), u64_small (by omega) (by omega), w64 (by omega) (by omega), w64 (by omega) (by omega), Int.toNat_natCast, show 1 + (i : Int) + 1 = 1 + ((i + 1 : Nat) : Int) by omega]
        rfl
      · rw [rd_set _ _ _ _ (by omega)]
        by_cases c : t = i
        · rw [if_pos c, c]
        · rw [if_neg c]; exact h t (by omega)
  exact loop l.length 0 l (by omega) rfl (fun t ht => by omega)
theorem held_ev (n : Nat) (hn : n ≤ 1000) : Ev (fun m => laws_heldUint64S.f m (mkL 1 n) 1) (1 + (n : Int)) := by
  have loop : ∀ (d i : Nat), i + d = n → Ev (fun m => laws_heldUint64S.l0 m (mkL 1 n) (1 + (i : Int)) (i : Int)) (1 + (n : Int)) := by
    intro d
    induction d with
    | zero =>
      intro i hi
      refine Ev.step (f := fun _ => some (1 + (n : Int))) (fun m => ?_) (Ev.now _)
      simp only [laws_heldUint64S.l0]
      rw [mkL_length, if_neg (by omega), show i = n by omega]
    | succ d ih =>
      intro i hi
      refine Ev.step (f := fun m => laws_heldUint64S.l0 m (mkL 1 n) (1 + ((i + 1 : Nat) : Int)) ((i + 1 : Nat) : Int)) (fun m => ?_) (ih (i + 1) (by omega))
      simp only [laws_heldUint64S.l0]
      rw [mkL_length, if_pos (by omega), if_pos (by omega), mkL_at 1 n i (by omega), u64_small (by omega) (by omega), if_pos rfl, w64 (by omega) (by omega), w64 (by omega) (by omega), show 1 + (i : Int) + 1 = 1 + ((i + 1 : Nat) : Int) by omega]
      rfl
  exact loop n 0 (by omega)
theorem eqPacked_ev (n : Int) (l : List Int) (hl : l.length ≤ 1000) : Ev (fun m => laws_eqPacked.f m n l n l) true := by
  unfold laws_eqPacked.f
  exact ev_pos rfl (Ev.bind (eqUint64S_ev l (by omega)) (ev_pos rfl (Ev.now _)))
theorem packV_length (s : ByteArray) : (packV s).2.length ≤ 1000 := by
  unfold packV
  split
  · next c => rw [packTo_length]; have := c.1; omega
  · simp
theorem markPacked_ev (n : Int) (l : List Int) (hl : l.length ≤ 1000) : Ev (fun m => laws_markPacked.f m n l 1) (1 + (l.length : Int), mkL 1 l.length) := by
  unfold laws_markPacked.f
  exact Ev.bind (mark_ev _ hl) (Ev.now _)
theorem heldPacked_ev (n : Int) (k : Nat) (hl : k ≤ 1000) : Ev (fun m => laws_heldPacked.f m n (mkL 1 k) 1) (1 + (k : Int)) := by
  unfold laws_heldPacked.f
  exact Ev.bind (held_ev _ hl) (ev_neg (by omega) (Ev.now _))
end Go.Proofs.Ytdoclpgciadjaaa.P

/- Marking a frame's bytes: it comes to its end, and tells how many there are. -/
namespace Go.Proofs.Ytdoclpgciadjaaa.P
open Go Go.RowKit Go.Proofs.YtdoclpgciadjaaaW.PrintWords
set_option linter.unusedVariables false
theorem markByteS_ex (l : List Int) (hl : l.length ≤ 10000000) : ∃ r, Ev (fun m => laws_markByteS.f m l 1) (1 + (l.length : Int), r) := by
  have loop : ∀ (d i : Nat) (x : List Int), i + d = l.length → x.length = l.length → ∃ r, Ev (fun m => laws_markByteS.l0 m x (1 + (i : Int)) (i : Int)) (1 + (l.length : Int), r) := by
    intro d
    induction d with
    | zero =>
      intro i x hi hx
      refine ⟨x, Ev.step (f := fun _ => some (1 + (l.length : Int), x)) (fun m => ?_) (Ev.now _)⟩
      simp only [laws_markByteS.l0]
      rw [if_neg (by omega), show i = l.length by omega]
    | succ d ih =>
      intro i x hi hx
      obtain ⟨r, hr⟩ := ih (i + 1) (x.set i ((1 + (i : Int)) % 256)) (by omega) (by rw [List.length_set]; exact hx)
      refine ⟨r, Ev.step (f := fun m => laws_markByteS.l0 m (x.set i ((1 + (i : Int)) % 256)) (1 + ((i + 1 : Nat) : Int)) ((i + 1 : Nat) : Int)) (fun m => ?_) hr⟩
      simp only [laws_markByteS.l0]
      rw [if_pos (by omega), if_pos (by omega), w64 (x := 1 + (i : Int) + 1) (by omega) (by omega), w64 (x := (i : Int) + 1) (by omega) (by omega), Int.toNat_natCast, show 1 + (i : Int) + 1 = 1 + ((i + 1 : Nat) : Int) by omega]
      rfl
  exact loop l.length 0 l (by omega) rfl
theorem markFrame_ex (e : Bool) (i : Int) (r : Bool) (d : Int) (l : List Int) (hl : l.length ≤ 10000000) : ∃ x, Ev (fun m => laws_markFrame.f m e i r d l 1) (1 + (l.length : Int), x) := by
  obtain ⟨x, hx⟩ := markByteS_ex l hl
  refine ⟨x, ?_⟩
  unfold laws_markFrame.f
  exact Ev.bind hx (Ev.now _)
end Go.Proofs.Ytdoclpgciadjaaa.P

/- A frame's packed image: the program's is the reference's, the frame stays, the answer is its own. -/
namespace Go.Proofs.Ytdoclpgciadjaaa.Pure
open Go Go.RowKit Go.Proofs.Ytdoclpgciadjaaa.P Go.Proofs.YtdoclpgciadjaaaW.PrintWords
set_option linter.unusedVariables false
def imageV (e : Bool) (i : Int) (r : Bool) (d : Int) (l : List Int) : Int × List Int := packV (encodeV e i r d l)
theorem specImage_ev {e : Bool} {i : Int} {r : Bool} {d : Int} {l : List Int} (hq : 0 ≤ i ∧ okBytes l = true) : Ev (fun k => spec_Image.f k e i r d l) (imageV e i r d l) := by
  unfold spec_Image.f
  refine Ev.bind (specValid_ev e i r d l) ?_
  cases hv : validF e i r d l.length with
  | false =>
    have : imageV e i r d l = (0, []) := by unfold imageV encodeV; rw [hv]; rfl
    rw [this]
    exact ev_neg (by decide) (Ev.now _)
  | true => exact ev_pos rfl (Ev.bind (specEncode_ev hq) (Ev.bind (specPack_ev _) (Ev.now _)))
theorem implImage_eq {e : Bool} {i : Int} {r : Bool} {d : Int} {l : List Int} (hq : 0 ≤ i ∧ okBytes l = true) : impl_Image.f e i r d l = some (imageV e i r d l) := by
  have h : impl_Encode.f e i r d l = some (encodeV e i r d l) := by unfold impl_Encode.f; rw [if_pos hq]
  unfold impl_Image.f
  rw [h]
  rfl
theorem FnExactImage : laws_FnExactImage.PureS := by
  rintro ⟨e, i, r, d, l⟩ ⟨_, hi, _, _, hl, hb⟩
  have hq := frame_ok hi hb
  refine Ev.rounds ?_
  unfold laws_FnExactImage.f
  simp only [] at hl hq ⊢
  refine ev_some (szFrame_eq e i r d l 1048576 hl (by omega) (by omega)) ?_
  by_cases c : (1048576 : Int) < l.length
  · rw [if_pos c]; exact Ev.now _
  · rw [if_neg c]
    have hl2 : l.length ≤ 10000000 := by omega
    have ht := toFrame_ev e i r d l hl2
    have hp : (imageV e i r d l).2.length ≤ 1000 := packV_length _
    have he := eqPacked_ev (imageV e i r d l).1 (imageV e i r d l).2 hp
    obtain ⟨x, hx⟩ := markFrame_ex e i r d l hl2
    refine ev_neg (by omega) (Ev.bind ht (Ev.bind (specImage_ev hq) (Ev.bind ht (ev_some (implImage_eq hq) (Ev.bind he (ev_pos rfl (Ev.bind ht (Ev.bind (eqFrame_ev e i r d l hl2) (ev_pos rfl (Ev.bind hx (ev_neg (by simp only []; omega) (Ev.bind he ?_))))))))))))
    refine Ev.step (f := fun k => (laws_markPacked.f k (imageV e i r d l).1 (imageV e i r d l).2 1).bind fun bt242 => ((laws_heldPacked.f k (imageV e i r d l).1 bt242.2 1).bind fun t244 => (if t244 < 0 then (some false) else (if t244 = bt242.1 then ((laws_toFrame.f k e i r d l).bind fun bt245 => ((impl_Image.f bt245.1 bt245.2.1 bt245.2.2.1 bt245.2.2.2.1 bt245.2.2.2.2).bind fun bt252 => ((laws_eqPacked.f k bt252.1 bt252.2 (imageV e i r d l).1 (imageV e i r d l).2).bind fun t257 => (if t257 = true then (some true) else (some false))))) else (some false))))) (fun k => ?_) (Ev.bind (markPacked_ev _ _ hp) (Ev.bind (heldPacked_ev _ _ hp) (ev_neg (by omega) (ev_pos rfl (Ev.bind ht (ev_some (implImage_eq hq) (Ev.bind he (ev_pos rfl (Ev.now _)))))))))
    simp only [laws_FnExactImage.j0]
    rw [if_neg (by decide)]
end Go.Proofs.Ytdoclpgciadjaaa.Pure
