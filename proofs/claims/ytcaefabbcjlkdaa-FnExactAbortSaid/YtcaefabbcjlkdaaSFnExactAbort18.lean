/- Texts of the proof of FnExactAbort, joined. -/
import Derived.Test.YtcaefabbcjlkdaaSFnExactAbort17
import Derived.Test.YtcaefabbcjlkdaaSFnExactAbort13
namespace Go.Proofs.YtcaefabbcjlkdaaW.PrintLast
section
variable {ops : Array Oper} {a : Act} {o og : Oper} {g : Nat} {t : Tmp} {u : Bool}
end
end Go.Proofs.YtcaefabbcjlkdaaW.PrintLast
