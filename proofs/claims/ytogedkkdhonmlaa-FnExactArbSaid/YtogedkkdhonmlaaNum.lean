import Derived.Test.YtogedkkdhonmlaaText
import Derived.Test.YtogedkkdhonmlaaValid
import Derived.Test.YtogedkkdhonmlaaF67
import Derived.Test.YtogedkkdhonmlaaF68
namespace Go.Proofs.Ytogedkkdhonmlaa.P
open Go Go.RowKit Go.Proofs.YtogedkkdhonmlaaW.PrintWords
set_option linter.unusedVariables false
theorem l1num_ev (n : Nat) : ∀ (u : Nat), u < 4294967296 → n ≤ 64 → Ev (fun k => spec_l1num.f k (u : Int) (n : Int)) (strOfNums (numL u n)) := by
  induction n with
  | zero =>
    intro u hu hn
    refine Ev.step (f := fun _ => some (⟨#[]⟩ : ByteArray)) (fun k => ?_) (Ev.now _)
    simp only [spec_l1num.f]
    rw [if_pos (by omega)]
  | succ n ih =>
    intro u hu hn
    have ih' := ih (u / 2) (by omega) (by omega)
    have e1 : wrap64 (Int.tdiv (u : Int) 2) = ((u / 2 : Nat) : Int) := by
      rw [Int.tdiv_eq_ediv_of_nonneg (by omega)]; unfold wrap64; omega
    have e2 : wrap64 (((n + 1 : Nat) : Int) - 1) = (n : Int) := by unfold wrap64; omega
    have e3 : Int.tmod (u : Int) 2 = ((u % 2 : Nat) : Int) := by rw [Int.tmod_eq_emod_of_nonneg (by omega)]; omega
    have hsz : (strOfNums (numL (u / 2) n)).size + 1 ≤ 9223372036854775807 := by rw [strOfNums_size, numL_length]; omega
    by_cases c : u % 2 = 1
    · refine Ev.step (f := fun k => (spec_l1num.f k ((u / 2 : Nat) : Int) (n : Int)).bind fun t => if t.size + 1 ≤ 9223372036854775807 then some (t ++ (⟨#[49]⟩ : ByteArray)) else none) (fun k => ?_) (Ev.bind ih' (ev_pos hsz ?_))
      · simp only [spec_l1num.f]
        rw [if_neg (by omega), e3, if_pos (by omega), e1, e2]
      · rw [numL_snoc, c, str_append]; exact Ev.now _
    · refine Ev.step (f := fun k => (spec_l1num.f k ((u / 2 : Nat) : Int) (n : Int)).bind fun t => if t.size + 1 ≤ 9223372036854775807 then some (t ++ (⟨#[48]⟩ : ByteArray)) else none) (fun k => ?_) (Ev.bind ih' (ev_pos hsz ?_))
      · simp only [spec_l1num.f]
        rw [if_neg (by omega), e3, if_neg (by omega), e1, e2]
      · rw [numL_snoc, show u % 2 = 0 by omega, str_append]; exact Ev.now _
theorem l1flag_eq (b : Bool) : spec_l1flag.f b = some (strOfNums (flagL b)) := by cases b <;> rfl
end Go.Proofs.Ytogedkkdhonmlaa.P
