/- Texts of the proof of FnExactBest, joined. -/
import Derived.Test.YtcaefabbcjlkdaaSFnExactBest2
import Derived.Test.YtcaefabbcjlkdaaSFnExactBest0
namespace Go.Proofs.YtcaefabbcjlkdaaW.PrintLast
open Go.Proofs.YtcaefabbcjlkdaaW.PrintWords (Aside0)
section
variable {md : Region.Mode} {ops : Array Oper} {T : Bool × List (List Nat × List Nat)} {l l' li lj lk : Array Bool} {ds : List Nat} {i j k : Nat}
end
end Go.Proofs.YtcaefabbcjlkdaaW.PrintLast
