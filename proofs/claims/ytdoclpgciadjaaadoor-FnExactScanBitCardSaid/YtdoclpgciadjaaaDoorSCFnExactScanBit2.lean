/- Texts of the proof of CFnExactScanBit, joined. -/
import Derived.Test.YtdoclpgciadjaaaDoorSCFnExactScanBit1
import Derived.Test.YtdoclpgciadjaaaDoorSCFnExactScanBit0
namespace Go.Proofs.YtdoclpgciadjaaaDoorW.PrintLast
open Go.Proofs.YtdoclpgciadjaaaDoorW.PrintWords (Aside0)
section
variable {md : Region.Mode} {ops : Array Oper} {T : Bool × List (List Nat × List Nat)} {l l' li lj lk : Array Bool} {ds : List Nat} {i j k : Nat}
end
end Go.Proofs.YtdoclpgciadjaaaDoorW.PrintLast
