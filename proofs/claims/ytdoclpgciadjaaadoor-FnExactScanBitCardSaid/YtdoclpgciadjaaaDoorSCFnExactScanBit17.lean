/- Texts of the proof of CFnExactScanBit, joined. -/
import Derived.Test.YtdoclpgciadjaaaDoorSCFnExactScanBit16
import Derived.Test.YtdoclpgciadjaaaDoorSCFnExactScanBit12
namespace Go.Proofs.YtdoclpgciadjaaaDoorW.PrintWords
open Go.RowKit
end Go.Proofs.YtdoclpgciadjaaaDoorW.PrintWords
namespace Go.Proofs.YtdoclpgciadjaaaDoorW.PrintLast
section
variable {ops : Array Oper} {a : Act} {o og : Oper} {g : Nat} {t : Tmp} {u : Bool}
end
end Go.Proofs.YtdoclpgciadjaaaDoorW.PrintLast
