/- Texts of the proof of FnExactRelease, joined. -/
import Derived.Test.YtcaefabbcjlkdaaSFnExactRelease17
import Derived.Test.YtcaefabbcjlkdaaSFnExactRelease13
namespace Go.Proofs.YtcaefabbcjlkdaaW.PrintLast
section
variable {ops : Array Oper} {a : Act} {o og : Oper} {g : Nat} {t : Tmp} {u : Bool}
end
end Go.Proofs.YtcaefabbcjlkdaaW.PrintLast
