import Derived.Test.YtogedkkdhonmlaaMUint64S
import Derived.Test.YtogedkkdhonmlaaF21
import Derived.Test.YtogedkkdhonmlaaF23
import Derived.Test.YtogedkkdhonmlaaF25
namespace Go.Proofs.Ytogedkkdhonmlaa.P
open Go Go.RowKit Go.Proofs.YtogedkkdhonmlaaW.PrintWords
theorem szPacked_eq (n : Int) (l : List Int) (a : Int) (h : l.length ≤ maxLen) (h0 : 0 ≤ a) (h1 : a ≤ 1048576) : laws_szPacked.f n l a = some (if a < l.length then -1 else a - l.length) := by
  unfold laws_szPacked.f
  rw [szUint64S_eq l a h h0 h1, Option.bind_some]
  by_cases c : a < (l.length : Int)
  · rw [if_pos c, if_pos (by omega)]
  · rw [if_neg c, if_neg (by omega)]
theorem toPacked_ev (n : Int) (l : List Int) (h : l.length ≤ 10000000) : Ev (fun k => laws_toPacked.f k n l) (n, l) := by
  refine Ev.congr (fun k => by unfold laws_toPacked.f; rfl) (Ev.bind (toUint64S_ev l h) (Ev.now _))
theorem eqPacked_ev (n : Int) (l : List Int) (h : l.length ≤ 10000000) : Ev (fun k => laws_eqPacked.f k n l n l) true := by
  refine Ev.congr (fun k => by unfold laws_eqPacked.f; rw [if_pos rfl]) (Ev.bind (f := fun _ t => if t = true then some true else some false) (eqUint64S_ev l h) (Ev.now _))
end Go.Proofs.Ytogedkkdhonmlaa.P
