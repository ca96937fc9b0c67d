import Derived.Test.YtogedkkdhonmlaaInts
namespace Go.Proofs.Ytogedkkdhonmlaa.P
open Go Go.RowKit Go.Proofs.YtogedkkdhonmlaaW.PrintWords
set_option linter.unusedVariables false
/-! ### How many equal letters stand last -/
structure Trail (l : List Int) (n run : Nat) (last : Int) : Prop where
  le : n ≤ l.length
  run_le : run ≤ n
  same : ∀ j, n - run ≤ j → j < n → rd l (j : Int) = last
  other : run < n → rd l ((n - run - 1 : Nat) : Int) ≠ last
  pos : 0 < n → 0 < run
theorem Trail.zero (l : List Int) (last : Int) : Trail l 0 0 last := ⟨Nat.zero_le _, Nat.le_refl _, fun j _ h => absurd h (Nat.not_lt_zero j), fun h => absurd h (Nat.lt_irrefl _), fun h => absurd h (Nat.lt_irrefl _)⟩
theorem Trail.next {l : List Int} {n run : Nat} {last : Int} (h : Trail l n run last) (hn : n < l.length) : Trail l (n + 1) (if rd l (n : Int) = last then run + 1 else 1) (rd l (n : Int)) := by
  have hr := h.run_le
  by_cases c : rd l (n : Int) = last
  · rw [if_pos c]
    refine ⟨by omega, by omega, fun j h1 h2 => ?_, fun h1 => ?_, fun _ => by omega⟩
    · by_cases e : j = n
      · rw [e]
      · rw [h.same j (by omega) (by omega), c]
    · rw [show n + 1 - (run + 1) - 1 = n - run - 1 by omega, c]
      exact h.other (by omega)
  · rw [if_neg c]
    refine ⟨by omega, by omega, fun j h1 h2 => ?_, fun h1 => ?_, fun _ => by omega⟩
    · rw [show j = n by omega]
    · rw [show n + 1 - 1 - 1 = n - 1 by omega]
      have hp := h.pos (by omega)
      rw [h.same (n - 1) (by omega) (by omega)]
      exact fun e => c e.symm
theorem rd_append (l m : List Int) (j : Nat) (h : j < l.length) : rd (l ++ m) (j : Int) = rd l (j : Int) := by
  unfold rd
  rw [Int.toNat_natCast, List.getD_eq_getElem?_getD, List.getD_eq_getElem?_getD, List.getElem?_append_left h]
theorem rd_last (l : List Int) (c : Int) : rd (l ++ [c]) (l.length : Int) = c := by
  rw [rd_snoc, if_neg (Nat.lt_irrefl _), if_pos rfl]
theorem Trail.append {l : List Int} {n run : Nat} {last : Int} (h : Trail l n run last) (m : List Int) : Trail (l ++ m) n run last := by
  have := h.le
  refine ⟨by rw [List.length_append]; omega, h.run_le, fun j h1 h2 => ?_, fun h1 => ?_, h.pos⟩
  · rw [rd_append l m j (by omega)]; exact h.same j h1 h2
  · rw [rd_append l m _ (by omega)]; exact h.other h1
theorem Trail.snoc {l : List Int} {run : Nat} {last : Int} (h : Trail l l.length run last) (c : Int) : Trail (l ++ [c]) (l.length + 1) (if c = last then run + 1 else 1) c := by
  have h1 := (h.append [c]).next (by simp)
  rw [rd_last] at h1
  exact h1
/-- Five equal letters stand last, or not: what is compared, one behind the other. -/
theorem Trail.five {l : List Int} {n run : Nat} {last : Int} (h : Trail l n run last) (h5 : run ≤ 5) (hn : 5 ≤ n) :
    (run = 5 ↔ (rd l ((n - 1 : Nat) : Int) = rd l ((n - 2 : Nat) : Int) ∧ rd l ((n - 2 : Nat) : Int) = rd l ((n - 3 : Nat) : Int) ∧ rd l ((n - 3 : Nat) : Int) = rd l ((n - 4 : Nat) : Int) ∧ rd l ((n - 4 : Nat) : Int) = rd l ((n - 5 : Nat) : Int))) := by
  have hp := h.pos (by omega)
  have e1 := h.same (n - 1) (by omega) (by omega)
  constructor
  · intro e
    subst e
    have e2 := h.same (n - 2) (by omega) (by omega)
    have e3 := h.same (n - 3) (by omega) (by omega)
    have e4 := h.same (n - 4) (by omega) (by omega)
    have e5 := h.same (n - 5) (by omega) (by omega)
    rw [e1, e2, e3, e4, e5]
    exact ⟨rfl, rfl, rfl, rfl⟩
  · rintro ⟨a1, a2, a3, a4⟩
    rcases Nat.lt_or_ge run 5 with hlt | hge
    · exfalso
      have ho := h.other (by omega)
      have hc : run = 1 ∨ run = 2 ∨ run = 3 ∨ run = 4 := by omega
      rcases hc with rfl | rfl | rfl | rfl
      · exact ho (by rw [show n - 1 - 1 = n - 2 by omega, ← a1, e1])
      · exact ho (by rw [show n - 2 - 1 = n - 3 by omega, ← a2, ← a1, e1])
      · exact ho (by rw [show n - 3 - 1 = n - 4 by omega, ← a3, ← a2, ← a1, e1])
      · exact ho (by rw [show n - 4 - 1 = n - 5 by omega, ← a4, ← a3, ← a2, ← a1, e1])
    · omega
end Go.Proofs.Ytogedkkdhonmlaa.P
