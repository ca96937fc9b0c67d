import Derived.Test.YtogedkkdhonmlaaMByteS
import Derived.Test.YtogedkkdhonmlaaF26
import Derived.Test.YtogedkkdhonmlaaF28
import Derived.Test.YtogedkkdhonmlaaF30
namespace Go.Proofs.Ytogedkkdhonmlaa.P
open Go Go.RowKit Go.Proofs.YtogedkkdhonmlaaW.PrintWords
set_option linter.unusedVariables false
theorem szFrame_eq (e : Bool) (i : Int) (r : Bool) (d : Int) (l : List Int) (a : Int) (h : l.length ≤ maxLen) (h0 : 0 ≤ a) (h1 : a ≤ 1048576) : laws_szFrame.f e i r d l a = some (if a < l.length then -1 else a - l.length) := by
  unfold laws_szFrame.f
  rw [szByteS_eq l a h h0 h1, Option.bind_some]
  by_cases c : a < (l.length : Int)
  · rw [if_pos c, if_pos (by omega)]
  · rw [if_neg c, if_neg (by omega)]
theorem toFrame_ev (e : Bool) (i : Int) (r : Bool) (d : Int) (l : List Int) (h : l.length ≤ 10000000) : Ev (fun k => laws_toFrame.f k e i r d l) (e, i, r, d, l) := by
  refine Ev.congr (fun k => by unfold laws_toFrame.f; rfl) (Ev.bind (toByteS_ev l h) (Ev.now _))
theorem eqFrame_ev (e : Bool) (i : Int) (r : Bool) (d : Int) (l : List Int) (h : l.length ≤ 10000000) : Ev (fun k => laws_eqFrame.f k e i r d l e i r d l) true := by
  refine Ev.congr (fun k => by unfold laws_eqFrame.f; rw [if_neg (by simp), if_pos rfl, if_neg (by simp), if_pos rfl]) (Ev.bind (f := fun _ t => if t = true then some true else some false) (eqByteS_ev l h) (Ev.now _))
end Go.Proofs.Ytogedkkdhonmlaa.P
