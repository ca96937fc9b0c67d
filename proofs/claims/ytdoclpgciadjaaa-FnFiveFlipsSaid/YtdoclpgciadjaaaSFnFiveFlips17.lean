/- Texts of the proof of FnFiveFlips, joined. -/
import Derived.Test.YtdoclpgciadjaaaSFnFiveFlips16
import Derived.Test.YtdoclpgciadjaaaSFnFiveFlips12
namespace Go.Proofs.YtdoclpgciadjaaaW.PrintWords
open Go.RowKit
end Go.Proofs.YtdoclpgciadjaaaW.PrintWords
namespace Go.Proofs.YtdoclpgciadjaaaW.PrintLast
section
variable {ops : Array Oper} {a : Act} {o og : Oper} {g : Nat} {t : Tmp} {u : Bool}
end
end Go.Proofs.YtdoclpgciadjaaaW.PrintLast
