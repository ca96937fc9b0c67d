/- Texts of the proof of FnExactBest, joined. -/
import Derived.Test.YtcaefabbcjlkdaaSFnExactBest0
import Derived.Test.YtcaefabbcjlkdaaSFnExactBest2
import Derived.Test.YtcaefabbcjlkdaaSFnExactBest5
import Derived.Test.YtcaefabbcjlkdaaSFnExactBest6
import Derived.Test.YtcaefabbcjlkdaaSFnExactBest8
import Derived.Test.YtcaefabbcjlkdaaSFnExactBest9
import Derived.Test.YtcaefabbcjlkdaaSFnExactBest10
import Derived.Test.YtcaefabbcjlkdaaSFnExactBest20
namespace Go.Proofs.YtcaefabbcjlkdaaW.PrintMore
open Go.RowKit Go.Proofs.YtcaefabbcjlkdaaW.PrintWords
namespace Kd
open Go.Proofs.YtcaefabbcjlkdaaW.PrintWords.Kd
section
variable {α : Type} {d : Kd α} {e base g N : Nat} {ok : Nat → Prop} {W w1 : World} {u v : Value} {xs : List α}
end
end Kd
end Go.Proofs.YtcaefabbcjlkdaaW.PrintMore
namespace Go.Proofs.YtcaefabbcjlkdaaW.PrintWords
open Go.RowKit
section
variable {P : Program} {ops : Array Oper} {rest : List Oper} {o : Oper} {a : Act} {Q : Exit → Act → World → Prop} {W : World}
theorem gate_callee {f : FuncId} {as : Array Operand} {ts : Array TypeId} (_ho : o.op = .call { callee := .value (.func f),args:=as,argTypes:=ts }) (h : wpList P ops Q (o :: rest) a W) : wpList P ops Q (o :: rest) a W:=h
theorem gate_builtin {b : Builtin} {xs : Array Operand} {ts : Array TypeId} (_ho : o.op = .call { callee := .builtin b,args:=xs,argTypes:=ts }) (h : wpList P ops Q (o :: rest) a W) : wpList P ops Q (o :: rest) a W:=h
end
def mx (a b : Int) : Int:=if a < b then b else a
def mn (a b : Int) : Int:=if b < a then b else a
namespace Kd
section
variable {α : Type} {d : Kd α} {e base : Nat} {ok : Nat → Prop} {W w1 : World} {v : Value} {xs : List α}
end
section
variable {α : Type} {d : Kd α} {e base g n cap : Nat} {ok oki okp : Nat → Prop} {W : World} {xs : List α} {i : Int} {c : List Value}
end
section
variable {α : Type} {d : Kd α} {e base b b' g N : Nat} {ok ok1 : Nat → Prop} {W W2 w1 : World} {u v : Value} {xs ys : List α} {S : Nat → Prop}
end
end Kd
end Go.Proofs.YtcaefabbcjlkdaaW.PrintWords
namespace Go.Proofs.YtcaefabbcjlkdaaW.PrintWords
open Go.RowKit
namespace Kd
section
variable {α β : Type} {d : Kd α} {e base base' n m c g N' lo hi : Nat} {ok ok' S : Nat → Prop} {w W w1 : World} {A : Option Addr} {ad : Addr} {u v v1 : Value} {xs : List α}
end
end Kd
end Go.Proofs.YtcaefabbcjlkdaaW.PrintWords
