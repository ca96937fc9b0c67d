import Derived.Test.YtogedkkdhonmlaaOwn
import Derived.Test.YtogedkkdhonmlaaF58
import Derived.Test.YtogedkkdhonmlaaF60
import Derived.Test.YtogedkkdhonmlaaF62
import Derived.Test.YtogedkkdhonmlaaInts
namespace Go.Proofs.Ytogedkkdhonmlaa.P
open Go Go.RowKit Go.Proofs.YtogedkkdhonmlaaW.PrintWords
set_option linter.unusedVariables false
theorem szByteS_eq (l : List Int) (a : Int) (h : l.length ≤ maxLen) (h0 : 0 ≤ a) (h1 : a ≤ 1048576) : laws_szByteS.f l a = some (if a < l.length then -1 else a - l.length) := by
  unfold laws_szByteS.f
  simp only [maxLen] at h
  have e : wrap64 (a - (l.length : Int)) = a - l.length := by unfold wrap64; omega
  rw [e]
  by_cases c : a < (l.length : Int)
  · rw [if_pos (by omega), if_pos c]
  · rw [if_neg (by omega), if_neg c]

theorem toByteS_ev (l : List Int) (h : l.length ≤ 10000000) : Ev (fun k => laws_toByteS.f k l) l := by
  have loop : ∀ (d i : Nat) (x : List Int), i + d = l.length → SameTo x l i → Ev (fun k => laws_toByteS.l0 k l x (i : Int)) l := by
    intro d
    induction d with
    | zero =>
      intro i x hi hx
      refine Ev.step (f := fun _ => some l) (fun k => ?_) (Ev.now _)
      simp only [laws_toByteS.l0]
      rw [if_neg (by omega), hx.all (by omega)]
    | succ d ih =>
      intro i x hi hx
      refine Ev.step (f := fun k => laws_toByteS.l0 k l (x.set i (rd l (i : Int))) ((i + 1 : Nat) : Int)) (fun k => ?_) (ih (i + 1) _ (by omega) (hx.next (by omega)))
      have hl := hx.1
      simp only [laws_toByteS.l0]
      rw [if_pos (by omega), if_pos (by omega), if_pos (by omega), w64 (by omega) (by omega)]
      rfl
  refine Ev.congr (fun k => ?_) (loop l.length 0 (List.replicate l.length 0) (by omega) (SameTo.zero (by simp)))
  unfold laws_toByteS.f
  rw [if_pos (by omega), if_pos (by omega)]
  rfl

theorem eqByteS_ev (l : List Int) (h : l.length ≤ 10000000) : Ev (fun k => laws_eqByteS.f k l l) true := by
  have loop : ∀ (d i : Nat), i + d = l.length → Ev (fun k => laws_eqByteS.l0 k l l (i : Int)) true := by
    intro d
    induction d with
    | zero =>
      intro i hi
      refine Ev.step (f := fun _ => some true) (fun k => ?_) (Ev.now _)
      simp only [laws_eqByteS.l0]
      rw [if_neg (by omega)]
    | succ d ih =>
      intro i hi
      refine Ev.step (f := fun k => laws_eqByteS.l0 k l l ((i + 1 : Nat) : Int)) (fun k => ?_) (ih (i + 1) (by omega))
      simp only [laws_eqByteS.l0]
      rw [if_pos (by omega), if_pos (by omega), if_pos (by omega), if_pos trivial, w64 (by omega) (by omega)]
      rfl
  refine Ev.congr (fun k => ?_) (loop l.length 0 (by omega))
  unfold laws_eqByteS.f
  rw [if_pos rfl]
  rfl

end Go.Proofs.Ytogedkkdhonmlaa.P
