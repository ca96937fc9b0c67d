/- Texts of the proof of FnExactDrain, joined. -/
import Derived.Test.YtcaefabbcjlkdaaSFnExactDrain6
import Derived.Test.YtcaefabbcjlkdaaSFnExactDrain7
namespace Go.Proofs.YtcaefabbcjlkdaaW.PrintWords
open Go.RowKit
section
variable {P : Program}
end
namespace Kd
section
variable {P : Program} {ops : Array Oper} {rest : List Oper} {o : Oper} {a : Act} {Q : Exit → Act → World → Prop} {Kc : Act → World → Prop} {α : Type}
end
section
variable {α : Type} {d : Kd α} {e : Nat} {w : World} {base : Nat} {ok : Nat → Prop} {v : Value} {xs : List α}
end
section
variable {P : Program} {ops : Array Oper} {rest : List Oper} {o : Oper} {a : Act} {Q : Exit → Act → World → Prop} {Kc : Act → World → Prop} {α : Type}
end
end Kd
end Go.Proofs.YtcaefabbcjlkdaaW.PrintWords
