/- Texts of the proof of FnExactTake, joined. -/
import Derived.Test.YtcaefabbcjlkdaaSFnExactTake17
import Derived.Test.YtcaefabbcjlkdaaSFnExactTake13
namespace Go.Proofs.YtcaefabbcjlkdaaW.PrintLast
section
variable {ops : Array Oper} {a : Act} {o og : Oper} {g : Nat} {t : Tmp} {u : Bool}
end
end Go.Proofs.YtcaefabbcjlkdaaW.PrintLast
