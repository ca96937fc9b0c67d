/- Texts of the proof of FnExactSpans, joined. -/
import Derived.Test.YtdoclpgciadjaaaSFnExactSpans0
import Derived.Laws.StructEq
namespace Go.Proofs.YtdoclpgciadjaaaW.PrintWords
open Go.RowKit
section
variable {P : Program} {d : Nat} {xs ys : Array Value} {f : Field} {fs : List Field} {a b : Value} {r s : Bool} {w : World}
end
end Go.Proofs.YtdoclpgciadjaaaW.PrintWords
