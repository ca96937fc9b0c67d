/- Texts of the proof of FnExactDrain, joined. -/
import Derived.Test.YtcaefabbcjlkdaaSFnExactDrain17
import Derived.Test.YtcaefabbcjlkdaaSFnExactDrain13
namespace Go.Proofs.YtcaefabbcjlkdaaW.PrintLast
section
variable {ops : Array Oper} {a : Act} {o og : Oper} {g : Nat} {t : Tmp} {u : Bool}
end
end Go.Proofs.YtcaefabbcjlkdaaW.PrintLast
