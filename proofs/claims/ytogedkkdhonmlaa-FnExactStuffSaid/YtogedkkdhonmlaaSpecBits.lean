import Derived.Test.YtogedkkdhonmlaaOwn
import Derived.Test.YtogedkkdhonmlaaInts
import Derived.Test.YtogedkkdhonmlaaF46
namespace Go.Proofs.Ytogedkkdhonmlaa.P
open Go Go.RowKit Go.Proofs.YtogedkkdhonmlaaW.PrintWords
set_option linter.unusedVariables false
/-! ### Letters of a text; the reference's look at them -/
theorem bt_eq (s : ByteArray) (i : Nat) (h : i < s.size) : bt s (i : Int) = ((s[i]'h).toNat : Int) := by
  unfold bt; rw [dif_pos (show (i : Int).toNat < s.size from h)]; rfl
theorem bytesOf_get (s : ByteArray) (i : Nat) (h : i < (bytesOf s).length) : (bytesOf s)[i]'h = bt s (i : Int) := by
  have hs : i < s.size := by rw [bytesOf_length] at h; exact h
  have h2 : (bytesOf s)[i]? = some (bt s (i : Int)) := by
    unfold bytesOf
    rw [List.getElem?_map, Array.getElem?_toList, Array.getElem?_eq_getElem (show i < s.data.size from hs), bt_eq s i hs]
    rfl
  rw [List.getElem?_eq_getElem h] at h2
  exact Option.some.inj h2
theorem okBits_ev (s : ByteArray) (lim : Nat) (hlim : lim < 100000000) :
    Ev (fun k => spec_l1okBits.f k s (lim : Int)) (decide (s.size ≤ lim) && isBits s) := by
  have loop : s.size ≤ lim → ∀ (d i : Nat), i + d = s.size → BitsTo s i → Ev (fun k => spec_l1okBits.l0 k s (i : Int)) (isBits s) := by
    intro hl d
    induction d with
    | zero =>
      intro i hi hb
      refine Ev.step (f := fun _ => some (isBits s)) (fun k => ?_) (Ev.now _)
      simp only [spec_l1okBits.l0]
      rw [if_neg (by omega), isBits_of s hb (by omega)]
    | succ d ih =>
      intro i hi hb
      have hp : i < s.size := by omega
      cases hbit : isBit (s[i]'hp) with
      | true =>
        refine Ev.step (f := fun k => spec_l1okBits.l0 k s ((i + 1 : Nat) : Int)) (fun k => ?_) (ih (i + 1) (by omega) (bitsTo_succ hb hp hbit))
        simp only [spec_l1okBits.l0]
        rw [if_pos (by omega), if_pos (by omega), bt_eq s i hp, w64 (by omega) (by omega)]
        rcases isBit_cases hbit with e | e <;> rw [e]
        · rw [if_pos (by decide)]; rfl
        · rw [if_neg (by decide), if_pos (by decide)]; rfl
      | false =>
        refine Ev.step (f := fun _ => some (isBits s)) (fun k => ?_) (Ev.now _)
        simp only [spec_l1okBits.l0]
        obtain ⟨h1, h2⟩ := not_bit hbit
        rw [if_pos (by omega), if_pos (by omega), bt_eq s i hp, if_neg (by omega), if_neg (by omega), isBits_not s hp hbit]
  by_cases c : s.size ≤ lim
  · rw [decide_eq_true c, Bool.true_and]
    refine Ev.congr (fun k => ?_) (loop c s.size 0 (by omega) (bitsTo_zero s))
    unfold spec_l1okBits.f
    rw [if_neg (by omega)]; rfl
  · rw [decide_eq_false c, Bool.false_and]
    refine Ev.congr (f := fun _ => some false) (fun k => ?_) (Ev.now _)
    unfold spec_l1okBits.f
    rw [if_pos (by omega)]
end Go.Proofs.Ytogedkkdhonmlaa.P
