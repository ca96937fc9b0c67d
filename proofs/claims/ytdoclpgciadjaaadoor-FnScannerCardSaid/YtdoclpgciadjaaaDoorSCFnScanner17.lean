/- Texts of the proof of CFnScanner, joined. -/
import Derived.Test.YtdoclpgciadjaaaDoorSCFnScanner16
import Derived.Test.YtdoclpgciadjaaaDoorSCFnScanner12
namespace Go.Proofs.YtdoclpgciadjaaaDoorW.PrintLast
section
variable {ops : Array Oper} {a : Act} {o og : Oper} {g : Nat} {t : Tmp} {u : Bool}
end
end Go.Proofs.YtdoclpgciadjaaaDoorW.PrintLast
