/- Texts of the proof of FnExactBest, joined. -/
import Derived.Test.YtcaefabbcjlkdaaSFnExactBest17
import Derived.Test.YtcaefabbcjlkdaaSFnExactBest13
namespace Go.Proofs.YtcaefabbcjlkdaaW.PrintLast
section
variable {ops : Array Oper} {a : Act} {o og : Oper} {g : Nat} {t : Tmp} {u : Bool}
end
end Go.Proofs.YtcaefabbcjlkdaaW.PrintLast
