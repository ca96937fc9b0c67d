/- Texts of the proof of CFnExactScanBit, joined. -/
import Derived.Test.YtdoclpgciadjaaaDoorSCFnExactScanBit0
import Derived.Test.YtdoclpgciadjaaaDoorSCFnExactScanBit1
import Derived.Test.YtdoclpgciadjaaaDoorSCFnExactScanBit4
import Derived.Test.YtdoclpgciadjaaaDoorSCFnExactScanBit5
import Derived.Test.YtdoclpgciadjaaaDoorSCFnExactScanBit7
import Derived.Test.YtdoclpgciadjaaaDoorSCFnExactScanBit8
import Derived.Test.YtdoclpgciadjaaaDoorSCFnExactScanBit9
import Derived.Test.YtdoclpgciadjaaaDoorSCFnExactScanBit19
namespace Go.Proofs.YtdoclpgciadjaaaDoorW.PrintMore
open Go.RowKit Go.Proofs.YtdoclpgciadjaaaDoorW.PrintWords
namespace Kd
open Go.Proofs.YtdoclpgciadjaaaDoorW.PrintWords.Kd
end Kd
namespace Kd
open Go.Proofs.YtdoclpgciadjaaaDoorW.PrintWords.Kd
section
variable {α : Type} {d : Kd α} {e base g N : Nat} {ok : Nat → Prop} {W w1 : World} {u v : Value} {xs : List α}
end
end Kd
end Go.Proofs.YtdoclpgciadjaaaDoorW.PrintMore
namespace Go.Proofs.YtdoclpgciadjaaaDoorW.PrintWords
open Go.RowKit
section
variable {P : Program} {ops : Array Oper} {rest : List Oper} {o : Oper} {a : Act} {Q : Exit → Act → World → Prop} {W : World}
theorem gate_callee {f : FuncId} {as : Array Operand} {ts : Array TypeId} (_ho : o.op = .call { callee := .value (.func f),args:=as,argTypes:=ts }) (h : wpList P ops Q (o :: rest) a W) : wpList P ops Q (o :: rest) a W:=h
theorem gate_builtin {b : Builtin} {xs : Array Operand} {ts : Array TypeId} (_ho : o.op = .call { callee := .builtin b,args:=xs,argTypes:=ts }) (h : wpList P ops Q (o :: rest) a W) : wpList P ops Q (o :: rest) a W:=h
end
namespace Kd
section
variable {α : Type} {d : Kd α} {e base : Nat} {ok : Nat → Prop} {W w1 : World} {v : Value} {xs : List α}
end
section
variable {α : Type} {d : Kd α} {e base g n cap : Nat} {ok oki okp : Nat → Prop} {W : World} {xs : List α} {i : Int} {c : List Value}
end
section
variable {α : Type} {d : Kd α} {e base b b' g N : Nat} {ok ok1 : Nat → Prop} {W W2 w1 : World} {u v : Value} {xs ys : List α} {S : Nat → Prop}
theorem R_reok (hE : d.E = []) (h : d.R e W base ok1 v xs) (hok : ∀ k,v.ownBlock = some k → ok k) : d.R e W base ok v xs:=R_mono (R_tight hE h) (fun k hk => hok k hk.symm)
end
end Kd
end Go.Proofs.YtdoclpgciadjaaaDoorW.PrintWords
namespace Go.Proofs.YtdoclpgciadjaaaDoorW.PrintWords
open Go.RowKit
namespace Kd
def V {α : Type} (d : Kd α) (_e : Nat) (W : World) (_base : Nat) (ok : Nat → Prop) (v : Value) (xs : List α) : Prop := ∃ A c,v = .slice A xs.length c ∧ xs.length ≤ c ∧ F d W ok A xs.length xs
section
variable {α β : Type} {d : Kd α} {e base base' n m c g N' lo hi : Nat} {ok ok' S : Nat → Prop} {w W w1 : World} {A : Option Addr} {ad : Addr} {u v v1 : Value} {xs : List α}
end
end Kd
end Go.Proofs.YtdoclpgciadjaaaDoorW.PrintWords
