import Derived.Test.YtogedkkdhonmlaaOwn
import Derived.Test.YtogedkkdhonmlaaInts
import Derived.Test.YtogedkkdhonmlaaF27
import Derived.Test.YtogedkkdhonmlaaF29
namespace Go.Proofs.Ytogedkkdhonmlaa.P
open Go Go.RowKit Go.Proofs.YtogedkkdhonmlaaW.PrintWords
set_option linter.unusedVariables false
theorem specValid_ev (e : Bool) (i : Int) (r : Bool) (d : Int) (l : List Int) : Ev (fun k => spec_ValidFrame.f k e i r d l) (validF e i r d l.length) := by
  have hd : ∀ a b c, spec_l1dataLen.f a b r c l = some (dataB r c) := by
    intro a b c
    unfold spec_l1dataLen.f dataB
    cases r
    · rw [if_neg (show ¬ (false = true) by decide), if_neg (show ¬ (false = true) by decide)]
      by_cases h : c > 8
      · rw [if_pos h, if_pos (show 8 < c from h)]
      · rw [if_neg h, if_neg (show ¬ 8 < c from h)]
    · rfl
  have h1 : ∀ b, Ev (fun k => spec_ValidFrame.j1 k b e i r d l) (!b && (decide (0 ≤ d) && (decide (d ≤ 15) && ((l.length : Int) == dataB r d)))) := by
    intro b
    refine Ev.step (f := fun _ => some (!b && (decide (0 ≤ d) && (decide (d ≤ 15) && ((l.length : Int) == dataB r d))))) (fun k => ?_) (Ev.now _)
    simp only [spec_ValidFrame.j1]
    cases b
    · rw [if_neg (by decide)]
      by_cases c1 : d < 0
      · rw [if_pos c1, decide_eq_false (by omega)]; rfl
      · rw [if_neg c1, decide_eq_true (show 0 ≤ d by omega)]
        by_cases c2 : d > 15
        · rw [if_pos c2, decide_eq_false (by omega)]; rfl
        · rw [if_neg c2, decide_eq_true (show d ≤ 15 by omega), hd, Option.bind_some]; simp
    · rfl
  have h0 : ∀ b, Ev (fun k => spec_ValidFrame.j0 k b e i r d l) (!b && ((e || decide (i < 2048)) && (decide (0 ≤ d) && (decide (d ≤ 15) && ((l.length : Int) == dataB r d))))) := by
    intro b
    cases b
    · cases e
      · refine Ev.step (fun k => ?_) (g := fun k => spec_ValidFrame.j0 k false false i r d l) (f := fun k => spec_ValidFrame.j1 k (decide (i ≥ 2048)) false i r d l) ?_
        · simp only [spec_ValidFrame.j0]
          rw [if_neg (by decide), if_neg (by decide)]
        · have := h1 (decide (i ≥ 2048))
          have e1 : (!decide (i ≥ 2048)) = decide (i < 2048) := by
            by_cases c : i < 2048
            · rw [decide_eq_true c, decide_eq_false (by omega)]; rfl
            · rw [decide_eq_false c, decide_eq_true (by omega)]; rfl
          rw [e1] at this
          exact this
      · refine Ev.step (fun k => ?_) (g := fun k => spec_ValidFrame.j0 k false true i r d l) (f := fun k => spec_ValidFrame.j1 k false true i r d l) (h1 false)
        simp only [spec_ValidFrame.j0]
        rw [if_neg (by decide), if_pos trivial]
    · refine Ev.step (f := fun _ => some false) (fun k => ?_) (Ev.now _)
      simp only [spec_ValidFrame.j0]
      rfl
  cases e
  · refine Ev.congr (f := fun k => spec_ValidFrame.j0 k false false i r d l) (fun k => ?_) (h0 false)
    unfold spec_ValidFrame.f
    rw [if_neg (by decide)]
  · refine Ev.congr (f := fun k => spec_ValidFrame.j0 k (decide (i ≥ 536870912)) true i r d l) (fun k => ?_) ?_
    · unfold spec_ValidFrame.f
      rw [if_pos rfl]
    · have := h0 (decide (i ≥ 536870912))
      have e1 : (!decide (i ≥ 536870912)) = decide (i < 536870912) := by
        by_cases c : i < 536870912
        · rw [decide_eq_true c, decide_eq_false (by omega)]; rfl
        · rw [decide_eq_false c, decide_eq_true (by omega)]; rfl
      rw [e1, Bool.true_or, Bool.true_and] at this
      exact this
end Go.Proofs.Ytogedkkdhonmlaa.P
