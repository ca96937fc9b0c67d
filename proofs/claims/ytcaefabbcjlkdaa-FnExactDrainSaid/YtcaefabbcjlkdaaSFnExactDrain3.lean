/- Texts of the proof of FnExactDrain, joined. -/
import Derived.Test.YtcaefabbcjlkdaaSFnExactDrain2
import Derived.Test.YtcaefabbcjlkdaaSFnExactDrain0
namespace Go.Proofs.YtcaefabbcjlkdaaW.PrintLast
open Go.Proofs.YtcaefabbcjlkdaaW.PrintWords (Aside0)
section
variable {md : Region.Mode} {ops : Array Oper} {T : Bool × List (List Nat × List Nat)} {l l' li lj lk : Array Bool} {ds : List Nat} {i j k : Nat}
theorem gd (l : Array Bool) (j : Nat) (b : Bool) : l.getD j b = l.toList.getD j b:=by simp [Array.getD_eq_getD_getElem?,List.getD_eq_getElem?_getD]
end
end Go.Proofs.YtcaefabbcjlkdaaW.PrintLast
