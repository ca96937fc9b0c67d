import Derived.Test.YtogedkkdhonmlaaCrc
import Derived.Test.YtogedkkdhonmlaaF15
namespace Go.Proofs.Ytogedkkdhonmlaa.P
open Go Go.RowKit Go.Proofs.YtogedkkdhonmlaaW.PrintWords
set_option linter.unusedVariables false
/-! ### spec.Crc15 is the register's sum -/
theorem bt_eq (s : ByteArray) (i : Nat) (h : i < s.size) : bt s (i : Int) = ((s[i]'h).toNat : Int) := by
  unfold bt; rw [dif_pos (show (i : Int).toNat < s.size from h)]; rfl
theorem bytesOf_get (s : ByteArray) (i : Nat) (h : i < (bytesOf s).length) : (bytesOf s)[i]'h = bt s (i : Int) := by
  have hs : i < s.size := by rw [bytesOf_length] at h; exact h
  have h2 : (bytesOf s)[i]? = some (bt s (i : Int)) := by
    unfold bytesOf
    rw [List.getElem?_map, Array.getElem?_toList, Array.getElem?_eq_getElem (show i < s.data.size from hs), bt_eq s i hs]
    rfl
  rw [List.getElem?_eq_getElem h] at h2
  exact Option.some.inj h2
theorem w64 {x : Int} (h0 : 0 ≤ x) (h1 : x < 1000000000) : wrap64 x = x := by unfold wrap64; omega
theorem okBits_ev (s : ByteArray) (lim : Nat) (hl : s.size < 100000000) (hlim : lim < 100000000) :
    Ev (fun k => spec_l1okBits.f k s (lim : Int)) (decide (s.size ≤ lim) && isBits s) := by
  have loop : ∀ (d i : Nat), i + d = s.size → BitsTo s i → Ev (fun k => spec_l1okBits.l0 k s (i : Int)) (isBits s) := by
    intro d
    induction d with
    | zero =>
      intro i hi hb
      refine Ev.step (f := fun _ => some (isBits s)) (fun k => ?_) (Ev.now _)
      simp only [spec_l1okBits.l0]
      rw [if_neg (by omega), isBits_of s hb (by omega)]
    | succ d ih =>
      intro i hi hb
      have hp : i < s.size := by omega
      cases hbit : isBit (s[i]'hp) with
      | true =>
        refine Ev.step (f := fun k => spec_l1okBits.l0 k s ((i + 1 : Nat) : Int)) (fun k => ?_) (ih (i + 1) (by omega) (bitsTo_succ hb hp hbit))
        simp only [spec_l1okBits.l0]
        rw [if_pos (by omega), if_pos (by omega), bt_eq s i hp, w64 (by omega) (by omega)]
        rcases isBit_cases hbit with e | e <;> rw [e]
        · rw [if_pos (by decide)]; rfl
        · rw [if_neg (by decide), if_pos (by decide)]; rfl
      | false =>
        refine Ev.step (f := fun _ => some (isBits s)) (fun k => ?_) (Ev.now _)
        simp only [spec_l1okBits.l0]
        obtain ⟨h1, h2⟩ := not_bit hbit
        rw [if_pos (by omega), if_pos (by omega), bt_eq s i hp, if_neg (by omega), if_neg (by omega), isBits_not s hp hbit]
  by_cases c : s.size ≤ lim
  · rw [decide_eq_true c, Bool.true_and]
    refine Ev.congr (fun k => ?_) (loop s.size 0 (by omega) (bitsTo_zero s))
    unfold spec_l1okBits.f
    rw [if_neg (by omega)]; rfl
  · rw [decide_eq_false c, Bool.false_and]
    refine Ev.congr (f := fun _ => some false) (fun k => ?_) (Ev.now _)
    unfold spec_l1okBits.f
    rw [if_pos (by omega)]
def b2 (b : Bool) : Int := if b then 1 else 0
theorem b2_xor (a b : Bool) : bits .xor .u8 (b2 a) (b2 b) = b2 (a ^^ b) := by cases a <;> cases b <;> decide
theorem gtext (j : Nat) (h : j < 16) : (bt (⟨#[49, 49, 48, 48, 48, 49, 48, 49, 49, 48, 48, 49, 49, 48, 48, 49]⟩ : ByteArray) (j : Int) - 48) % 256 = b2 (Nat.testBit 50585 (15 - j)) := by
  have : ∀ j : Fin 16, (bt (⟨#[49, 49, 48, 48, 48, 49, 48, 49, 49, 48, 48, 49, 49, 48, 48, 49]⟩ : ByteArray) ((j.val : Nat) : Int) - 48) % 256 = b2 (Nat.testBit 50585 (15 - j.val)) := by decide +kernel
  exact this ⟨j, h⟩
/-- What the list holds at the head of the division's round i: letter by letter. -/
def phi (s : ByteArray) (i t : Nat) : Bool := (decide (t < i + 15) && (crcL ((bytesOf s).take i)).testBit (14 - (t - i))) ^^ (decide (t < s.size) && bitB (bt s (t : Int)))
def Holds (v : List Int) (n : Nat) (from_ : Nat) (φ : Nat → Bool) : Prop := v.length = n ∧ ∀ t, from_ ≤ t → t < n → rd v (t : Int) = b2 (φ t)
theorem rd_set (v : List Int) (i : Nat) (x : Int) (t : Nat) (hi : i < v.length) : rd (v.set i x) (t : Int) = if t = i then x else rd v (t : Int) := by
  unfold rd
  rw [Int.toNat_natCast, List.getD_eq_getElem?_getD, List.getD_eq_getElem?_getD, List.getElem?_set]
  by_cases e : i = t
  · subst e; simp [hi]
  · rw [if_neg e, if_neg (fun h => e h.symm)]
theorem rd_snoc (v : List Int) (x : Int) (t : Nat) : rd (v ++ [x]) (t : Int) = if t < v.length then rd v t else if t = v.length then x else 0 := by
  unfold rd
  rw [Int.toNat_natCast, List.getD_eq_getElem?_getD, List.getD_eq_getElem?_getD, List.getElem?_append]
  by_cases h : t < v.length
  · rw [if_pos h, if_pos h]
  · rw [if_neg h, if_neg h]
    by_cases e : t = v.length
    · rw [if_pos e, e, Nat.sub_self]; rfl
    · rw [if_neg e, List.getElem?_eq_none (by simp; omega)]; rfl
set_option linter.unusedSectionVars false
section
variable (s : ByteArray) (hs : s.size ≤ 2000) (hb : isBits s = true)
include hs hb
omit hs in
theorem bit_at (t : Nat) (ht : t < s.size) : bt s (t : Int) = 48 ∨ bt s (t : Int) = 49 := by
  rw [bt_eq s t ht]
  rcases isBit_cases (isBits_at hb ht) with e | e <;> rw [e]
  · exact .inl rfl
  · exact .inr rfl
omit hs hb in
theorem phi_step (i t : Nat) (hi : i < s.size) (ht : i + 1 ≤ t) (ht2 : t < s.size + 15) :
    phi s (i + 1) t = (phi s i t ^^ (phi s i i && decide (t < i + 16) && Nat.testBit 50585 (15 - (t - i)))) := by
  have hl : i < (bytesOf s).length := by rw [bytesOf_length]; exact hi
  have h1 : crcL ((bytesOf s).take (i + 1)) = crcN (crcL ((bytesOf s).take i)) (bitN (bt s (i : Int))) := by
    rw [List.take_succ_eq_append_getElem hl, crcL_snoc, bytesOf_get]
  have hb1 : bitN (bt s (i : Int)) ≤ 1 := by unfold bitN; split <;> omega
  have hbd : decide (bitN (bt s (i : Int)) = 1) = bitB (bt s (i : Int)) := by unfold bitN bitB; split <;> simp [*]
  unfold phi
  rw [h1]
  have hR : crcL ((bytesOf s).take i) < 32768 := crcL_lt _
  generalize crcL ((bytesOf s).take i) = R at *
  rw [decide_eq_true (show i < i + 15 by omega), decide_eq_true hi, Nat.sub_self, Bool.true_and, Bool.true_and]
  by_cases h : t < i + 16
  · obtain ⟨j, hj, hj15⟩ : ∃ j, t = i + 15 - j ∧ j < 15 := ⟨i + 15 - t, by omega, by omega⟩
    subst hj
    rw [show 14 - (i + 15 - j - (i + 1)) = j by omega, crcN_testBit R _ hR hb1 j hj15, hbd, show 15 - (i + 15 - j - i) = j by omega, decide_eq_true (show i + 15 - j < i + 1 + 15 by omega)]
    have hg : Nat.testBit 50585 j = Nat.testBit 17817 j := by
      have : ∀ j : Fin 15, Nat.testBit 50585 j.val = Nat.testBit 17817 j.val := by decide
      exact this ⟨j, hj15⟩
    rw [hg]
    by_cases h0 : 0 < j
    · rw [decide_eq_true h0, decide_eq_true (show i + 15 - j < i + 15 by omega), show 14 - (i + 15 - j - i) = j - 1 by omega]
      simp only [Bool.true_and, Bool.and_true]
      cases R.testBit (j - 1) <;> cases R.testBit 14 <;> cases bitB (bt s (i : Int)) <;> cases Nat.testBit 17817 j <;> simp
    · rw [decide_eq_false h0, decide_eq_false (show ¬ i + 15 - j < i + 15 by omega)]
      simp only [Bool.true_and, Bool.and_true, Bool.false_and]
      cases R.testBit 14 <;> cases bitB (bt s (i : Int)) <;> cases Nat.testBit 17817 j <;> simp
  · rw [decide_eq_false (show ¬ t < i + 1 + 15 by omega), decide_eq_false (show ¬ t < i + 15 by omega)]
    simp
theorem l4_ev (v : List Int) (R : Nat) (hR : R < 32768) (hv : Holds v (s.size + 15) s.size (fun t => R.testBit (14 - (t - s.size)))) :
    ∀ (d j : Nat), j + d = 15 → Ev (fun k => spec_Crc15.l4 k v ((R >>> (15 - j) : Nat) : Int) ((s.size + j : Nat) : Int)) (R : Int) := by
  obtain ⟨hl, hv⟩ := hv
  intro d
  induction d with
  | zero =>
    intro j hj
    refine Ev.step (f := fun _ => some (R : Int)) (fun k => ?_) (Ev.now _)
    simp only [spec_Crc15.l4]
    rw [if_neg (by omega), show 15 - j = 0 by omega, Nat.shiftRight_zero]
  | succ d ih =>
    intro j hj
    refine Ev.step (f := fun k => spec_Crc15.l4 k v ((R >>> (15 - (j + 1)) : Nat) : Int) ((s.size + (j + 1) : Nat) : Int)) (fun k => ?_) (ih (j + 1) (by omega))
    have hb0 : (R >>> (15 - j)) < 32768 := Nat.lt_of_le_of_lt (Nat.shiftRight_le _ _) hR
    have hx : R >>> (15 - (j + 1)) = 2 * (R >>> (15 - j)) + (R.testBit (14 - j)).toNat := by
      have e : 15 - j = (14 - j) + 1 := by omega
      rw [show 15 - (j + 1) = 14 - j by omega, e, Nat.shiftRight_succ, Nat.testBit_eq_decide_div_mod_eq, Nat.shiftRight_eq_div_pow]
      generalize R / 2 ^ (14 - j) = q
      by_cases h : q % 2 = 1
      · rw [decide_eq_true h]; simp; omega
      · rw [decide_eq_false h]; simp; omega
    have hr : rd v ((s.size + j : Nat) : Int) = (((R.testBit (14 - j)).toNat : Nat) : Int) := by
      rw [hv (s.size + j) (by omega) (by omega)]; dsimp only; rw [show s.size + j - s.size = j by omega]
      unfold b2
      cases R.testBit (14 - j) <;> rfl
    have ht : (R.testBit (14 - j)).toNat ≤ 1 := Bool.toNat_le _
    simp only [spec_Crc15.l4]
    rw [if_pos (by omega), if_pos (by omega), hr, w64 (x := 2 * _) (by omega) (by omega), w64 (x := (((R.testBit (14 - j)).toNat : Nat) : Int)) (by omega) (by omega), w64 (by omega) (by omega), w64 (by omega) (by omega), hx]
    push_cast
    rfl
theorem l3_ev (i : Nat) (hi : i < s.size) (φ : Nat → Bool) (r : Int)
    (next : ∀ v, Holds v (s.size + 15) (i + 1) (fun t => φ t ^^ (decide (t < i + 16) && Nat.testBit 50585 (15 - (t - i)))) → Ev (fun k => spec_Crc15.l2 k v (⟨#[49, 49, 48, 48, 48, 49, 48, 49, 49, 48, 48, 49, 49, 48, 48, 49]⟩ : ByteArray) ((i + 1 : Nat) : Int)) r) :
    ∀ (d j : Nat) (v : List Int), j + d = 16 → Holds v (s.size + 15) i (fun t => φ t ^^ (decide (t < i + j) && Nat.testBit 50585 (15 - (t - i)))) → Ev (fun k => spec_Crc15.l3 k v (⟨#[49, 49, 48, 48, 48, 49, 48, 49, 49, 48, 48, 49, 49, 48, 48, 49]⟩ : ByteArray) (i : Int) (j : Int)) r := by
  intro d
  induction d with
  | zero =>
    intro j v hj hv
    obtain rfl : j = 16 := by omega
    refine Ev.step (f := fun k => spec_Crc15.l2 k v (⟨#[49, 49, 48, 48, 48, 49, 48, 49, 49, 48, 48, 49, 49, 48, 48, 49]⟩ : ByteArray) ((i + 1 : Nat) : Int)) (fun k => ?_) (next v ⟨hv.1, fun t h1 h2 => hv.2 t (by omega) h2⟩)
    simp only [spec_Crc15.l3]
    rw [if_neg (by omega), w64 (by omega) (by omega)]
    rfl
  | succ d ih =>
    intro j v hj hv
    obtain ⟨hl, hv⟩ := hv
    have hg := gtext j (by omega)
    have hx : bits .xor .u8 (rd v ((i + j : Nat) : Int)) (b2 (Nat.testBit 50585 (15 - j))) = b2 (φ (i + j) ^^ Nat.testBit 50585 (15 - j)) := by
      rw [hv (i + j) (by omega) (by omega)]; dsimp only; rw [decide_eq_false (show ¬ i + j < i + j by omega), Bool.false_and, Bool.xor_false, b2_xor]
    refine Ev.step (f := fun k => spec_Crc15.l3 k (v.set (i + j) (b2 (φ (i + j) ^^ Nat.testBit 50585 (15 - j)))) (⟨#[49, 49, 48, 48, 48, 49, 48, 49, 49, 48, 48, 49, 49, 48, 48, 49]⟩ : ByteArray) (i : Int) ((j + 1 : Nat) : Int)) (fun k => ?_) (ih (j + 1) _ (by omega) ⟨by rw [List.length_set]; exact hl, fun t h1 h2 => ?_⟩)
    · simp only [spec_Crc15.l3]
      rw [w64 (x := (i : Int) + (j : Int)) (by omega) (by omega), show (i : Int) + (j : Int) = ((i + j : Nat) : Int) by omega, if_pos (by omega), if_pos (by omega), if_pos (by omega), if_pos (by omega), if_pos (by rw [show (ByteArray.size _ : Nat) = 16 from rfl]; omega), hg, hx, w64 (by omega) (by omega)]
      rfl
    · rw [rd_set v (i + j) _ t (by omega)]
      by_cases e : t = i + j
      · subst e
        rw [if_pos rfl]; dsimp only; rw [decide_eq_true (show i + j < i + (j + 1) by omega), Bool.true_and, show i + j - i = j by omega]
      · rw [if_neg e, hv t h1 h2]
        dsimp only
        rw [show decide (t < i + j) = decide (t < i + (j + 1)) from decide_eq_decide.2 ⟨fun _ => by omega, fun _ => by omega⟩]
theorem l2_ev : ∀ (d i : Nat) (v : List Int), i + d = s.size → Holds v (s.size + 15) i (phi s i) → Ev (fun k => spec_Crc15.l2 k v (⟨#[49, 49, 48, 48, 48, 49, 48, 49, 49, 48, 48, 49, 49, 48, 48, 49]⟩ : ByteArray) (i : Int)) (crcL (bytesOf s) : Int) := by
  intro d
  induction d with
  | zero =>
    intro i v hi hv
    obtain rfl : i = s.size := by omega
    have h4 := l4_ev s hs hb (v := v) (crcL (bytesOf s)) (crcL_lt _) ⟨hv.1, fun t h1 h2 => by
      rw [hv.2 t h1 h2]; unfold phi; dsimp only
      rw [decide_eq_false (show ¬ t < s.size by omega), decide_eq_true (show t < s.size + 15 by omega), List.take_of_length_le (by rw [bytesOf_length]; omega)]; simp⟩ 15 0 (by omega)
    refine Ev.step (f := fun k => spec_Crc15.l4 k v ((crcL (bytesOf s) >>> (15 - 0) : Nat) : Int) ((s.size + 0 : Nat) : Int)) (fun k => ?_) h4
    have hz : crcL (bytesOf s) >>> (15 - 0) = 0 := by rw [Nat.shiftRight_eq_div_pow]; have := crcL_lt (bytesOf s); omega
    have hl := hv.1
    simp only [spec_Crc15.l2]
    rw [w64 (by omega) (by omega), if_neg (by omega), hz, hl, w64 (by omega) (by omega), show ((s.size + 15 : Nat) : Int) - 15 = ((s.size + 0 : Nat) : Int) by omega]
    rfl
  | succ d ih =>
    intro i v hi hv
    have hl := hv.1
    have his : i < s.size := by omega
    have hr : rd v (i : Int) = b2 (phi s i i) := hv.2 i (by omega) (by omega)
    cases hp : phi s i i with
    | true =>
      refine Ev.step (f := fun k => spec_Crc15.l3 k v (⟨#[49, 49, 48, 48, 48, 49, 48, 49, 49, 48, 48, 49, 49, 48, 48, 49]⟩ : ByteArray) (i : Int) ((0 : Nat) : Int)) (fun k => ?_) (l3_ev s hs hb i his (phi s i) _ (fun v' hv' => ih (i + 1) v' (by omega) ⟨hv'.1, fun t h1 h2 => ?_⟩) 16 0 v (by omega) ⟨hl, fun t h1 h2 => ?_⟩)
      · simp only [spec_Crc15.l2]
        rw [w64 (by omega) (by omega), if_pos (by omega), if_pos (by omega), if_pos (by omega), hr, hp, if_pos (show b2 true = 1 from rfl)]
        rfl
      · rw [hv'.2 t h1 h2]; dsimp only; rw [phi_step s i t his h1 h2, hp, Bool.true_and]
      · rw [hv.2 t h1 h2]; dsimp only; rw [decide_eq_false (show ¬ t < i + 0 by omega), Bool.false_and, Bool.xor_false]
    | false =>
      refine Ev.step (f := fun k => spec_Crc15.l2 k v (⟨#[49, 49, 48, 48, 48, 49, 48, 49, 49, 48, 48, 49, 49, 48, 48, 49]⟩ : ByteArray) ((i + 1 : Nat) : Int)) (fun k => ?_) (ih (i + 1) v (by omega) ⟨hl, fun t h1 h2 => ?_⟩)
      · simp only [spec_Crc15.l2]
        rw [w64 (x := (i : Int) + 15) (by omega) (by omega), if_pos (by omega), if_pos (by omega), if_pos (by omega), hr, hp, if_neg (by decide), w64 (by omega) (by omega)]
        rfl
      · rw [hv.2 t (by omega) h2, phi_step s i t his h1 h2, hp]; simp
theorem l1_ev (φ : Nat → Bool) (hφ : ∀ t, s.size ≤ t → φ t = false) (r : Int) (next : ∀ v, Holds v (s.size + 15) 0 φ → Ev (fun k => spec_Crc15.l2 k v (⟨#[49, 49, 48, 48, 48, 49, 48, 49, 49, 48, 48, 49, 49, 48, 48, 49]⟩ : ByteArray) 0) r) :
    ∀ (d j : Nat) (v : List Int), j + d = 15 → Holds v (s.size + j) 0 φ → Ev (fun k => spec_Crc15.l1 k v (j : Int)) r := by
  intro d
  induction d with
  | zero =>
    intro j v hj hv
    obtain rfl : j = 15 := by omega
    refine Ev.step (fun k => ?_) (next v hv)
    simp only [spec_Crc15.l1]
    rw [if_neg (by omega)]
  | succ d ih =>
    intro j v hj hv
    obtain ⟨hl, hv⟩ := hv
    refine Ev.step (f := fun k => spec_Crc15.l1 k (v ++ [0]) ((j + 1 : Nat) : Int)) (fun k => ?_) (ih (j + 1) _ (by omega) ⟨by rw [List.length_append, hl]; simp; omega, fun t h1 h2 => ?_⟩)
    · simp only [spec_Crc15.l1]
      rw [if_pos (by omega), if_pos (by omega), w64 (by omega) (by omega)]
      rfl
    · rw [rd_snoc]
      by_cases h : t < v.length
      · rw [if_pos h, hv t h1 (by omega)]
      · rw [if_neg h, if_pos (by omega), hφ t (by omega)]; rfl
theorem l0_ev (r : Int) (next : ∀ v, Holds v s.size 0 (fun t => decide (t < s.size) && bitB (bt s (t : Int))) → Ev (fun k => spec_Crc15.l1 k v 0) r) :
    ∀ (d i : Nat) (v : List Int), i + d = s.size → Holds v i 0 (fun t => decide (t < s.size) && bitB (bt s (t : Int))) → Ev (fun k => spec_Crc15.l0 k s v (i : Int)) r := by
  intro d
  induction d with
  | zero =>
    intro i v hi hv
    obtain rfl : i = s.size := by omega
    refine Ev.step (fun k => ?_) (next v hv)
    simp only [spec_Crc15.l0]
    rw [if_neg (by omega)]
  | succ d ih =>
    intro i v hi hv
    obtain ⟨hl, hv⟩ := hv
    have hx : (bt s (i : Int) - 48) % 256 = b2 (bitB (bt s (i : Int))) := by
      rcases bit_at s hb i (by omega) with e | e <;> rw [e] <;> decide
    refine Ev.step (f := fun k => spec_Crc15.l0 k s (v ++ [b2 (bitB (bt s (i : Int)))]) ((i + 1 : Nat) : Int)) (fun k => ?_) (ih (i + 1) _ (by omega) ⟨by rw [List.length_append, hl]; rfl, fun t h1 h2 => ?_⟩)
    · simp only [spec_Crc15.l0]
      rw [if_pos (by omega), if_pos (by omega), if_pos (by omega), w64 (by omega) (by omega), hx]
      rfl
    · rw [rd_snoc]
      by_cases h : t < v.length
      · rw [if_pos h, hv t h1 (by omega)]
      · obtain rfl : t = i := by omega
        rw [if_neg h, if_pos hl.symm]; dsimp only; rw [decide_eq_true (show t < s.size by omega), Bool.true_and]
end
/-- What Crc15 says of a text. -/
def crcV (s : ByteArray) : Int := if s.size ≤ 2000 ∧ isBits s = true then (crcL (bytesOf s) : Int) else -1
theorem specCrc15_ev (s : ByteArray) (h : s.size < 100000000) : Ev (fun k => spec_Crc15.f k s) (crcV s) := by
  have hk := okBits_ev s 2000 h (by omega)
  unfold crcV
  by_cases c : s.size ≤ 2000 ∧ isBits s = true
  · rw [if_pos c]
    rw [c.2, decide_eq_true c.1] at hk
    refine Ev.congr (fun k => rfl) (Ev.bind (f := fun k t => if t = true then spec_Crc15.l0 k s ([] : List Int) 0 else some (-1)) hk ?_)
    simp only [Bool.and_self, if_true]
    refine l0_ev s c.1 c.2 _ (fun v hv => l1_ev s c.1 c.2 _ (fun t ht => by rw [decide_eq_false (by omega)]; rfl) _ (fun v' hv' => l2_ev s c.1 c.2 s.size 0 v' (by omega) ⟨hv'.1, fun t h1 h2 => ?_⟩) 15 0 v (by omega) hv) s.size 0 [] (by omega) ⟨rfl, fun t h1 h2 => by omega⟩
    rw [hv'.2 t h1 h2]; dsimp only; unfold phi
    rw [List.take_zero]
    simp [crcL]
  · rw [if_neg c]
    have hf : (decide (s.size ≤ 2000) && isBits s) = false := by
      rw [Bool.and_eq_false_iff]
      by_cases hh : isBits s = true
      · exact .inl (decide_eq_false fun h2 => c ⟨h2, hh⟩)
      · exact .inr (by simpa using hh)
    rw [hf] at hk
    exact Ev.congr (fun k => rfl) (Ev.bind (f := fun k t => if t = true then spec_Crc15.l0 k s ([] : List Int) 0 else some (-1)) hk (Ev.now _))
theorem crcOf_eq (s : ByteArray) (h : isBits s = true) : crcOf s = (crcL (bytesOf s) : Int) := by
  refine crcI_list _ fun c hc => ?_
  obtain ⟨i, hi, rfl⟩ := List.getElem_of_mem hc
  rw [bytesOf_get]
  exact bit_at s h i (by rw [bytesOf_length] at hi; exact hi)
end Go.Proofs.Ytogedkkdhonmlaa.P
