/- Texts of the proof of FnExactSpans, joined. -/
import Derived.Test.YtdoclpgciadjaaaSFnExactSpans2
namespace Go.Proofs.YtdoclpgciadjaaaW.PrintLast
section
variable {P : Program} {ops : Array Oper} {Q : Exit → Act → World → Prop} {md : Region.Mode} {S : World → Prop} {ds : List Nat} {T : Bool × List (List Nat × List Nat)}
end
end Go.Proofs.YtdoclpgciadjaaaW.PrintLast
