/- Texts of the proof of FnExactNewHost, joined. -/
import Derived.Test.YtcaefabbcjlkdaaProg
import Derived.Below
import Derived.Deep.Draws
import Derived.Deep.AppendLies
import Derived.Maps.AppendAt
import Derived.OwnWalk
import Derived.Laws.BytesArg
import Derived.Laws.MakeOwn
import Derived.Laws.OwnMore
import Derived.Deep.OwnRows
import Derived.Tactics
import Derived.Lib.ConvBytes
import Derived.Laws.Slices
import Derived.WalkKit
import Derived.KernelRfl
import Derived.RowKit3
import Derived.Deep.LoopGhost
import Derived.Deep.QuietTactic
import Derived.BigQuiet
import Derived.WideLaws
import Derived.Deep.DeepCutAuto
import Derived.Deep.CutBlock
import Derived.Deep.RegionHeld3
import Derived.Laws.Rows
import Derived.Lib.AppendStr
import Derived.ArgAppend
import Derived.Laws.IdiomCopy
import Derived.OrdersHeld
import Derived.Laws.BitsLemmas
import Derived.RowKit
import Derived.Test.YtcaefabbcjlkdaaSFnExactNewHost0
import Derived.Test.YtcaefabbcjlkdaaSFnExactNewHost2
import Derived.Test.YtcaefabbcjlkdaaSFnExactNewHost3
import Derived.Test.YtcaefabbcjlkdaaSFnExactNewHost4
import Derived.Test.YtcaefabbcjlkdaaSFnExactNewHost5
import Derived.Test.YtcaefabbcjlkdaaSFnExactNewHost6
import Derived.Test.YtcaefabbcjlkdaaSFnExactNewHost7
import Derived.Test.YtcaefabbcjlkdaaSFnExactNewHost8
import Derived.Test.YtcaefabbcjlkdaaSFnExactNewHost9
import Derived.Test.YtcaefabbcjlkdaaSFnExactNewHost10
import Derived.Test.YtcaefabbcjlkdaaSFnExactNewHost11
import Derived.Test.YtcaefabbcjlkdaaSFnExactNewHost12
import Derived.Test.YtcaefabbcjlkdaaSFnExactNewHost13
import Derived.Test.YtcaefabbcjlkdaaSFnExactNewHost14
import Derived.Test.YtcaefabbcjlkdaaSFnExactNewHost15
import Derived.Test.YtcaefabbcjlkdaaSFnExactNewHost16
import Derived.Test.YtcaefabbcjlkdaaSFnExactNewHost17
import Derived.Test.YtcaefabbcjlkdaaSFnExactNewHost18
import Derived.Test.YtcaefabbcjlkdaaSFnExactNewHost19
import Derived.Test.YtcaefabbcjlkdaaSFnExactNewHost20
import Derived.Test.YtcaefabbcjlkdaaSFnExactNewHost21
import Derived.Lib.Hide
import Derived.Laws.RangeAny
import Derived.Lib.OthersKept
import Derived.Deep.MidRow
import Derived.MapKept
import Derived.Deep.RegionHeld
namespace Go.Proofs.Ytcaefabbcjlkdaa.P
open Go.RowKit Go.Proofs.YtcaefabbcjlkdaaW.PrintWords Go.Proofs.YtcaefabbcjlkdaaW.PrintLast Go.Proofs.YtcaefabbcjlkdaaW.PrintMore
set_option linter.unusedVariables false
set_option linter.unusedSimpArgs false
def errW : Option Int → Value
 | none => .nilIface
 | some c => .iface 0 (.int .i64 c)
theorem errW_none : errW none = .nilIface:=rfl
theorem errW_some (c : Int) : errW (some c) = .iface 0 (.int .i64 c):=rfl
theorem info5 : (Try.prog.info? 5).map (fun i => (i.zero,i.size,i.bytes)) = some (some (.int .u8 0),1,1):=by kernel_rfl
theorem info45 : (Try.prog.info? 45).map (fun i => (i.zero,i.size,i.bytes)) = some (some (.agg #[(.bool false),(.int .u32 0),(.bool false),(.int .i64 0),(.slice none 0 0)]),5,48):=by kernel_rfl
theorem info56 : (Try.prog.info? 56).map (fun i => (i.zero,i.size,i.bytes)) = some (some (.agg #[(.int .i64 0),(.int .i64 0),(.int .i64 0),(.bool false),(.int .u32 0),(.bool false),(.int .i64 0),(.slice none 0 0)]),8,72):=by kernel_rfl
theorem info87 : (Try.prog.info? 87).map (fun i => (i.zero,i.size,i.bytes)) = some (some (.agg #[(.int .i64 0),(.int .i64 0),(.int .i64 0),(.bool false),(.int .u32 0),(.bool false),(.int .i64 0),(.slice none 0 0)]),8,72):=by kernel_rfl
theorem info89 : (Try.prog.info? 89).map (fun i => (i.zero,i.size,i.bytes)) = some (some (.agg #[(.bool false),(.int .u32 0),(.int .u32 0)]),3,12):=by kernel_rfl
structure S89 where
 f0 : Bool
 f1 : Int
 f2 : Int
def z89 : S89:=⟨false,(0 : Int),(0 : Int)⟩
def k89 : Kd S89:=Kd.iso (Kd.pair Kd.bool (Kd.pair (Kd.int .u32) (Kd.int .u32))) (fun x : S89 => (x.f0,x.f1,x.f2))
theorem k89_open {w : World} {x : S89} {cs : List Value} (h : k89.K w x cs) : cs = [.bool x.f0, .int .u32 x.f1, .int .u32 x.f2]:=by
 obtain ⟨_,_,rfl,rfl,⟨_,_,rfl,rfl,rfl⟩⟩:=h
 exact rfl
theorem k89_openM {w : World} {base : Nat} {ok : Nat → Prop} {x : S89} {cs : List Value} (h : k89.M w base ok x cs) : cs = [.bool x.f0, .int .u32 x.f1, .int .u32 x.f2]:=by
 obtain ⟨_,_,rfl,rfl,⟨_,_,rfl,rfl,rfl⟩⟩:=h
 exact rfl
theorem k89_mkM (w : World) (base : Nat) (ok : Nat → Prop) (x : S89)  : k89.M w base ok x [.bool x.f0, .int .u32 x.f1, .int .u32 x.f2]:=⟨[.bool x.f0], [.int .u32 x.f1, .int .u32 x.f2],rfl,rfl,⟨[.int .u32 x.f1], [.int .u32 x.f2],rfl,rfl,rfl⟩⟩
def rd_T89 (xs : List S89) (i : Int) : S89:=xs.getD i.toNat z89
theorem at_T89 {w : World} {A : Option Addr} {n : Nat} {xs : List S89} (h : Kd.C k89 w A n xs) (i : Int) (h0 : 0 ≤ i) (h1 : i < n) : ∃ ad ,A = some ad ∧ w.cell? (ad.add (i.toNat * 3)) = some (.bool (rd_T89 xs i).f0) ∧ w.cell? ⟨(ad.add (i.toNat * 3)).block,(ad.add (i.toNat * 3)).off + 1,none⟩ = some (.int .u32 (rd_T89 xs i).f1) ∧ w.cell? ⟨(ad.add (i.toNat * 3)).block,(ad.add (i.toNat * 3)).off + 2,none⟩ = some (.int .u32 (rd_T89 xs i).f2):=by
 obtain ⟨ad,c,e,_,hK,hc0⟩:=Kd.C_get h z89 i h0 h1
 have hc : ∀ j u,c[j]? = some u → w.cell? (ad.add (i.toNat * 3 + j)) = some u:=hc0
 obtain rfl:=k89_open hK
 exact ⟨ad,e,hc 0 _ rfl,by rw [← add_field _ _ 1 (by omega)];exact hc 1 _ rfl,by rw [← add_field _ _ 2 (by omega)];exact hc 2 _ rfl⟩
structure S45 where
 f0 : Bool
 f1 : Int
 f2 : Bool
 f3 : Int
 f4 : (List Int)
def z45 : S45:=⟨false,(0 : Int),false,(0 : Int),([] : List Int)⟩
def k45 : Kd S45:=Kd.iso (Kd.pair Kd.bool (Kd.pair (Kd.int .u32) (Kd.pair Kd.bool (Kd.pair (Kd.int .i64) (Kd.slice 5 (Kd.int .u8)))))) (fun x : S45 => (x.f0,x.f1,x.f2,x.f3,x.f4))
theorem k45_open {w : World} {x : S45} {cs : List Value} (h : k45.K w x cs) : ∃ A4 c4,cs = [.bool x.f0, .int .u32 x.f1, .bool x.f2, .int .i64 x.f3, .slice A4 x.f4.length c4] ∧ x.f4.length ≤ c4 ∧ (Kd.int .u8).C w A4 x.f4.length x.f4:=by
 obtain ⟨_,_,rfl,rfl,⟨_,_,rfl,rfl,⟨_,_,rfl,rfl,⟨_,_,rfl,rfl,⟨A4,c4,rfl,l4,g4⟩⟩⟩⟩⟩:=h
 exact ⟨A4,c4,rfl,l4,g4⟩
theorem k45_openM {w : World} {base : Nat} {ok : Nat → Prop} {x : S45} {cs : List Value} (h : k45.M w base ok x cs) : ∃ v4,cs = [.bool x.f0, .int .u32 x.f1, .bool x.f2, .int .i64 x.f3,v4] ∧ (Kd.int .u8).R 5 w base ok v4 x.f4:=by
 obtain ⟨_,_,rfl,rfl,⟨_,_,rfl,rfl,⟨_,_,rfl,rfl,⟨_,_,rfl,rfl,⟨v4,rfl,g4⟩⟩⟩⟩⟩:=h
 exact ⟨v4,rfl,g4⟩
theorem k45_mkM (w : World) (base : Nat) (ok : Nat → Prop) (x : S45) {v4 : Value} (g4 : (Kd.int .u8).R 5 w base ok v4 x.f4) : k45.M w base ok x [.bool x.f0, .int .u32 x.f1, .bool x.f2, .int .i64 x.f3,v4]:=⟨[.bool x.f0], [.int .u32 x.f1, .bool x.f2, .int .i64 x.f3,v4],rfl,rfl,⟨[.int .u32 x.f1], [.bool x.f2, .int .i64 x.f3,v4],rfl,rfl,⟨[.bool x.f2], [.int .i64 x.f3,v4],rfl,rfl,⟨[.int .i64 x.f3], [v4],rfl,rfl,⟨v4,rfl,g4⟩⟩⟩⟩⟩
def rd_T45 (xs : List S45) (i : Int) : S45:=xs.getD i.toNat z45
theorem at_T45 {w : World} {A : Option Addr} {n : Nat} {xs : List S45} (h : Kd.C k45 w A n xs) (i : Int) (h0 : 0 ≤ i) (h1 : i < n) : ∃ ad A4 c4,A = some ad ∧ w.cell? (ad.add (i.toNat * 5)) = some (.bool (rd_T45 xs i).f0) ∧ w.cell? ⟨(ad.add (i.toNat * 5)).block,(ad.add (i.toNat * 5)).off + 1,none⟩ = some (.int .u32 (rd_T45 xs i).f1) ∧ w.cell? ⟨(ad.add (i.toNat * 5)).block,(ad.add (i.toNat * 5)).off + 2,none⟩ = some (.bool (rd_T45 xs i).f2) ∧ w.cell? ⟨(ad.add (i.toNat * 5)).block,(ad.add (i.toNat * 5)).off + 3,none⟩ = some (.int .i64 (rd_T45 xs i).f3) ∧ w.cell? ⟨(ad.add (i.toNat * 5)).block,(ad.add (i.toNat * 5)).off + 4,none⟩ = some (.slice A4 (rd_T45 xs i).f4.length c4) ∧ (rd_T45 xs i).f4.length ≤ c4 ∧ (Kd.int .u8).C w A4 (rd_T45 xs i).f4.length (rd_T45 xs i).f4:=by
 obtain ⟨ad,c,e,_,hK,hc0⟩:=Kd.C_get h z45 i h0 h1
 have hc : ∀ j u,c[j]? = some u → w.cell? (ad.add (i.toNat * 5 + j)) = some u:=hc0
 obtain ⟨A4,c4,rfl,l4,g4⟩:=k45_open hK
 exact ⟨ad,A4,c4,e,hc 0 _ rfl,by rw [← add_field _ _ 1 (by omega)];exact hc 1 _ rfl,by rw [← add_field _ _ 2 (by omega)];exact hc 2 _ rfl,by rw [← add_field _ _ 3 (by omega)];exact hc 3 _ rfl,by rw [← add_field _ _ 4 (by omega)];exact hc 4 _ rfl,l4,g4⟩
structure S56 where
 f0 : Int
 f1 : Int
 f2 : Int
 f3 : S45
def z56 : S56:=⟨(0 : Int),(0 : Int),(0 : Int),z45⟩
def k56 : Kd S56:=Kd.iso (Kd.pair (Kd.int .i64) (Kd.pair (Kd.int .i64) (Kd.pair (Kd.int .i64) k45))) (fun x : S56 => (x.f0,x.f1,x.f2,x.f3))
theorem k56_open {w : World} {x : S56} {cs : List Value} (h : k56.K w x cs) : ∃ A7 c7,cs = [.int .i64 x.f0, .int .i64 x.f1, .int .i64 x.f2, .bool x.f3.f0, .int .u32 x.f3.f1, .bool x.f3.f2, .int .i64 x.f3.f3, .slice A7 x.f3.f4.length c7] ∧ x.f3.f4.length ≤ c7 ∧ (Kd.int .u8).C w A7 x.f3.f4.length x.f3.f4:=by
 obtain ⟨_,_,rfl,rfl,⟨_,_,rfl,rfl,⟨_,_,rfl,rfl,s3⟩⟩⟩:=h
 obtain ⟨A7,c7,rfl,l7,g7⟩:=k45_open s3
 exact ⟨A7,c7,rfl,l7,g7⟩
theorem k56_openM {w : World} {base : Nat} {ok : Nat → Prop} {x : S56} {cs : List Value} (h : k56.M w base ok x cs) : ∃ v7,cs = [.int .i64 x.f0, .int .i64 x.f1, .int .i64 x.f2, .bool x.f3.f0, .int .u32 x.f3.f1, .bool x.f3.f2, .int .i64 x.f3.f3,v7] ∧ (Kd.int .u8).R 5 w base ok v7 x.f3.f4:=by
 obtain ⟨_,_,rfl,rfl,⟨_,_,rfl,rfl,⟨_,_,rfl,rfl,s3⟩⟩⟩:=h
 obtain ⟨v7,rfl,g7⟩:=k45_openM s3
 exact ⟨v7,rfl,g7⟩
theorem k56_mkM (w : World) (base : Nat) (ok : Nat → Prop) (x : S56) {v7 : Value} (g7 : (Kd.int .u8).R 5 w base ok v7 x.f3.f4) : k56.M w base ok x [.int .i64 x.f0, .int .i64 x.f1, .int .i64 x.f2, .bool x.f3.f0, .int .u32 x.f3.f1, .bool x.f3.f2, .int .i64 x.f3.f3,v7]:=⟨[.int .i64 x.f0], [.int .i64 x.f1, .int .i64 x.f2, .bool x.f3.f0, .int .u32 x.f3.f1, .bool x.f3.f2, .int .i64 x.f3.f3,v7],rfl,rfl,⟨[.int .i64 x.f1], [.int .i64 x.f2, .bool x.f3.f0, .int .u32 x.f3.f1, .bool x.f3.f2, .int .i64 x.f3.f3,v7],rfl,rfl,⟨[.int .i64 x.f2], [.bool x.f3.f0, .int .u32 x.f3.f1, .bool x.f3.f2, .int .i64 x.f3.f3,v7],rfl,rfl,(k45_mkM w base ok x.f3 g7)⟩⟩⟩
def rd_T56 (xs : List S56) (i : Int) : S56:=xs.getD i.toNat z56
theorem at_T56 {w : World} {A : Option Addr} {n : Nat} {xs : List S56} (h : Kd.C k56 w A n xs) (i : Int) (h0 : 0 ≤ i) (h1 : i < n) : ∃ ad A7 c7,A = some ad ∧ w.cell? (ad.add (i.toNat * 8)) = some (.int .i64 (rd_T56 xs i).f0) ∧ w.cell? ⟨(ad.add (i.toNat * 8)).block,(ad.add (i.toNat * 8)).off + 1,none⟩ = some (.int .i64 (rd_T56 xs i).f1) ∧ w.cell? ⟨(ad.add (i.toNat * 8)).block,(ad.add (i.toNat * 8)).off + 2,none⟩ = some (.int .i64 (rd_T56 xs i).f2) ∧ w.cell? ⟨(ad.add (i.toNat * 8)).block,(ad.add (i.toNat * 8)).off + 3,none⟩ = some (.bool (rd_T56 xs i).f3.f0) ∧ w.cell? ⟨(ad.add (i.toNat * 8)).block,(ad.add (i.toNat * 8)).off + 4,none⟩ = some (.int .u32 (rd_T56 xs i).f3.f1) ∧ w.cell? ⟨(ad.add (i.toNat * 8)).block,(ad.add (i.toNat * 8)).off + 5,none⟩ = some (.bool (rd_T56 xs i).f3.f2) ∧ w.cell? ⟨(ad.add (i.toNat * 8)).block,(ad.add (i.toNat * 8)).off + 6,none⟩ = some (.int .i64 (rd_T56 xs i).f3.f3) ∧ w.cell? ⟨(ad.add (i.toNat * 8)).block,(ad.add (i.toNat * 8)).off + 7,none⟩ = some (.slice A7 (rd_T56 xs i).f3.f4.length c7) ∧ (rd_T56 xs i).f3.f4.length ≤ c7 ∧ (Kd.int .u8).C w A7 (rd_T56 xs i).f3.f4.length (rd_T56 xs i).f3.f4:=by
 obtain ⟨ad,c,e,_,hK,hc0⟩:=Kd.C_get h z56 i h0 h1
 have hc : ∀ j u,c[j]? = some u → w.cell? (ad.add (i.toNat * 8 + j)) = some u:=hc0
 obtain ⟨A7,c7,rfl,l7,g7⟩:=k56_open hK
 exact ⟨ad,A7,c7,e,hc 0 _ rfl,by rw [← add_field _ _ 1 (by omega)];exact hc 1 _ rfl,by rw [← add_field _ _ 2 (by omega)];exact hc 2 _ rfl,by rw [← add_field _ _ 3 (by omega)];exact hc 3 _ rfl,by rw [← add_field _ _ 4 (by omega)];exact hc 4 _ rfl,by rw [← add_field _ _ 5 (by omega)];exact hc 5 _ rfl,by rw [← add_field _ _ 6 (by omega)];exact hc 6 _ rfl,by rw [← add_field _ _ 7 (by omega)];exact hc 7 _ rfl,l7,g7⟩
structure S87 where
 f0 : Int
 f1 : Int
 f2 : Int
 f3 : S45
def z87 : S87:=⟨(0 : Int),(0 : Int),(0 : Int),z45⟩
def k87 : Kd S87:=Kd.iso (Kd.pair (Kd.int .i64) (Kd.pair (Kd.int .i64) (Kd.pair (Kd.int .i64) k45))) (fun x : S87 => (x.f0,x.f1,x.f2,x.f3))
theorem k87_open {w : World} {x : S87} {cs : List Value} (h : k87.K w x cs) : ∃ A7 c7,cs = [.int .i64 x.f0, .int .i64 x.f1, .int .i64 x.f2, .bool x.f3.f0, .int .u32 x.f3.f1, .bool x.f3.f2, .int .i64 x.f3.f3, .slice A7 x.f3.f4.length c7] ∧ x.f3.f4.length ≤ c7 ∧ (Kd.int .u8).C w A7 x.f3.f4.length x.f3.f4:=by
 obtain ⟨_,_,rfl,rfl,⟨_,_,rfl,rfl,⟨_,_,rfl,rfl,s3⟩⟩⟩:=h
 obtain ⟨A7,c7,rfl,l7,g7⟩:=k45_open s3
 exact ⟨A7,c7,rfl,l7,g7⟩
theorem k87_openM {w : World} {base : Nat} {ok : Nat → Prop} {x : S87} {cs : List Value} (h : k87.M w base ok x cs) : ∃ v7,cs = [.int .i64 x.f0, .int .i64 x.f1, .int .i64 x.f2, .bool x.f3.f0, .int .u32 x.f3.f1, .bool x.f3.f2, .int .i64 x.f3.f3,v7] ∧ (Kd.int .u8).R 5 w base ok v7 x.f3.f4:=by
 obtain ⟨_,_,rfl,rfl,⟨_,_,rfl,rfl,⟨_,_,rfl,rfl,s3⟩⟩⟩:=h
 obtain ⟨v7,rfl,g7⟩:=k45_openM s3
 exact ⟨v7,rfl,g7⟩
theorem k87_mkM (w : World) (base : Nat) (ok : Nat → Prop) (x : S87) {v7 : Value} (g7 : (Kd.int .u8).R 5 w base ok v7 x.f3.f4) : k87.M w base ok x [.int .i64 x.f0, .int .i64 x.f1, .int .i64 x.f2, .bool x.f3.f0, .int .u32 x.f3.f1, .bool x.f3.f2, .int .i64 x.f3.f3,v7]:=⟨[.int .i64 x.f0], [.int .i64 x.f1, .int .i64 x.f2, .bool x.f3.f0, .int .u32 x.f3.f1, .bool x.f3.f2, .int .i64 x.f3.f3,v7],rfl,rfl,⟨[.int .i64 x.f1], [.int .i64 x.f2, .bool x.f3.f0, .int .u32 x.f3.f1, .bool x.f3.f2, .int .i64 x.f3.f3,v7],rfl,rfl,⟨[.int .i64 x.f2], [.bool x.f3.f0, .int .u32 x.f3.f1, .bool x.f3.f2, .int .i64 x.f3.f3,v7],rfl,rfl,(k45_mkM w base ok x.f3 g7)⟩⟩⟩
def rd_T87 (xs : List S87) (i : Int) : S87:=xs.getD i.toNat z87
theorem at_T87 {w : World} {A : Option Addr} {n : Nat} {xs : List S87} (h : Kd.C k87 w A n xs) (i : Int) (h0 : 0 ≤ i) (h1 : i < n) : ∃ ad A7 c7,A = some ad ∧ w.cell? (ad.add (i.toNat * 8)) = some (.int .i64 (rd_T87 xs i).f0) ∧ w.cell? ⟨(ad.add (i.toNat * 8)).block,(ad.add (i.toNat * 8)).off + 1,none⟩ = some (.int .i64 (rd_T87 xs i).f1) ∧ w.cell? ⟨(ad.add (i.toNat * 8)).block,(ad.add (i.toNat * 8)).off + 2,none⟩ = some (.int .i64 (rd_T87 xs i).f2) ∧ w.cell? ⟨(ad.add (i.toNat * 8)).block,(ad.add (i.toNat * 8)).off + 3,none⟩ = some (.bool (rd_T87 xs i).f3.f0) ∧ w.cell? ⟨(ad.add (i.toNat * 8)).block,(ad.add (i.toNat * 8)).off + 4,none⟩ = some (.int .u32 (rd_T87 xs i).f3.f1) ∧ w.cell? ⟨(ad.add (i.toNat * 8)).block,(ad.add (i.toNat * 8)).off + 5,none⟩ = some (.bool (rd_T87 xs i).f3.f2) ∧ w.cell? ⟨(ad.add (i.toNat * 8)).block,(ad.add (i.toNat * 8)).off + 6,none⟩ = some (.int .i64 (rd_T87 xs i).f3.f3) ∧ w.cell? ⟨(ad.add (i.toNat * 8)).block,(ad.add (i.toNat * 8)).off + 7,none⟩ = some (.slice A7 (rd_T87 xs i).f3.f4.length c7) ∧ (rd_T87 xs i).f3.f4.length ≤ c7 ∧ (Kd.int .u8).C w A7 (rd_T87 xs i).f3.f4.length (rd_T87 xs i).f3.f4:=by
 obtain ⟨ad,c,e,_,hK,hc0⟩:=Kd.C_get h z87 i h0 h1
 have hc : ∀ j u,c[j]? = some u → w.cell? (ad.add (i.toNat * 8 + j)) = some u:=hc0
 obtain ⟨A7,c7,rfl,l7,g7⟩:=k87_open hK
 exact ⟨ad,A7,c7,e,hc 0 _ rfl,by rw [← add_field _ _ 1 (by omega)];exact hc 1 _ rfl,by rw [← add_field _ _ 2 (by omega)];exact hc 2 _ rfl,by rw [← add_field _ _ 3 (by omega)];exact hc 3 _ rfl,by rw [← add_field _ _ 4 (by omega)];exact hc 4 _ rfl,by rw [← add_field _ _ 5 (by omega)];exact hc 5 _ rfl,by rw [← add_field _ _ 6 (by omega)];exact hc 6 _ rfl,by rw [← add_field _ _ 7 (by omega)];exact hc 7 _ rfl,l7,g7⟩
structure S91 where
 f0 : Bool
 f1 : Int
 f2 : Int
def z91 : S91:=⟨false,(0 : Int),(0 : Int)⟩
def k91 : Kd S91:=Kd.iso (Kd.pair Kd.bool (Kd.pair (Kd.int .u32) (Kd.int .u32))) (fun x : S91 => (x.f0,x.f1,x.f2))
theorem k91_open {w : World} {x : S91} {cs : List Value} (h : k91.K w x cs) : cs = [.bool x.f0, .int .u32 x.f1, .int .u32 x.f2]:=by
 obtain ⟨_,_,rfl,rfl,⟨_,_,rfl,rfl,rfl⟩⟩:=h
 exact rfl
def rd_T91 (xs : List S91) (i : Int) : S91:=xs.getD i.toNat z91
theorem at_T91 {w : World} {A : Option Addr} {n : Nat} {xs : List S91} (h : Kd.C k91 w A n xs) (i : Int) (h0 : 0 ≤ i) (h1 : i < n) : ∃ ad ,A = some ad ∧ w.cell? (ad.add (i.toNat * 3)) = some (.bool (rd_T91 xs i).f0) ∧ w.cell? ⟨(ad.add (i.toNat * 3)).block,(ad.add (i.toNat * 3)).off + 1,none⟩ = some (.int .u32 (rd_T91 xs i).f1) ∧ w.cell? ⟨(ad.add (i.toNat * 3)).block,(ad.add (i.toNat * 3)).off + 2,none⟩ = some (.int .u32 (rd_T91 xs i).f2):=by
 obtain ⟨ad,c,e,_,hK,hc0⟩:=Kd.C_get h z91 i h0 h1
 have hc : ∀ j u,c[j]? = some u → w.cell? (ad.add (i.toNat * 3 + j)) = some u:=hc0
 obtain rfl:=k91_open hK
 exact ⟨ad,e,hc 0 _ rfl,by rw [← add_field _ _ 1 (by omega)];exact hc 1 _ rfl,by rw [← add_field _ _ 2 (by omega)];exact hc 2 _ rfl⟩
structure S77 where
 f0 : Bool
 f1 : Int
 f2 : Bool
 f3 : Int
 f4 : (List Int)
def z77 : S77:=⟨false,(0 : Int),false,(0 : Int),([] : List Int)⟩
def rd_T77 (xs : List S77) (i : Int) : S77:=xs.getD i.toNat z77
structure S141 where
 f0 : Int
 f1 : Int
 f2 : Int
 f3 : S77
def z141 : S141:=⟨(0 : Int),(0 : Int),(0 : Int),z77⟩
def rd_T141 (xs : List S141) (i : Int) : S141:=xs.getD i.toNat z141
structure S144 where
 f0 : Int
 f1 : Int
 f2 : Int
 f3 : S77
def z144 : S144:=⟨(0 : Int),(0 : Int),(0 : Int),z77⟩
def rd_T144 (xs : List S144) (i : Int) : S144:=xs.getD i.toNat z144
structure S23 where
 f0 : Int
 f1 : Int
 f2 : Int
 f3 : Int
def k23 : Kd S23:=Kd.iso (Kd.pair (Kd.int .i64) (Kd.pair (Kd.int .i64) (Kd.pair (Kd.int .i64) (Kd.int .i64)))) (fun x : S23 => (x.f0,x.f1,x.f2,x.f3))
theorem k23_open {w : World} {x : S23} {cs : List Value} (h : k23.K w x cs) : cs = [.int .i64 x.f0, .int .i64 x.f1, .int .i64 x.f2, .int .i64 x.f3]:=by
 obtain ⟨_,_,rfl,rfl,⟨_,_,rfl,rfl,⟨_,_,rfl,rfl,rfl⟩⟩⟩:=h
 exact rfl
end Go.Proofs.Ytcaefabbcjlkdaa.P
namespace Go.Proofs.Ytcaefabbcjlkdaa.P
open Go Go.RowKit Go.Proofs.YtcaefabbcjlkdaaW.PrintWords
set_option linter.unusedVariables false
def destuffL : List Int → Int → Int → Int → List Int → List Int × Int
 | [],_,_,_,out => (out, -1)
 | c :: l,i,run,last,out => if run = 5 then (if c = last then (out,i) else destuffL l (i + 1) 1 c out) else destuffL l (i + 1) (if c = last then run + 1 else 1) c (out ++ [c])
theorem drop_cons (s : ByteArray) (pos : Nat) (hp : pos < s.size) {b : Nat} (hb : (s[pos]'hp).toNat = b) : (bytesOf s).drop pos = (b : Int) :: (bytesOf s).drop (pos + 1):=by
 have hl : pos < (bytesOf s).length:=by rw [bytesOf_length];exact hp
 rw [List.drop_eq_getElem_cons hl]
 congr 1
 have h2 : (bytesOf s)[pos]? = some (b : Int):=by
  unfold bytesOf
  rw [List.getElem?_map,Array.getElem?_toList,Array.getElem?_eq_getElem (show pos < s.data.size from hp), ← hb]
  rfl
 rw [List.getElem?_eq_getElem hl] at h2
 exact Option.some.inj h2
theorem drop_end (s : ByteArray) (pos : Nat) (hp : ¬ pos < s.size) : (bytesOf s).drop pos = []:=List.drop_eq_nil_of_le (by rw [bytesOf_length];omega)
structure DesAt (s : ByteArray) (R : List Int × Int) (pos : Nat) (out : List Int) (run last : Int) : Prop where
 eq : destuffL ((bytesOf s).drop pos) pos run last out = R
 len : out.length ≤ pos
 lo : 0 ≤ run
 hi : run ≤ 5
theorem DesAt.zero (s : ByteArray) : DesAt s (destuffL (bytesOf s) 0 0 120 []) 0 [] 0 120:=⟨by rw [List.drop_zero];rfl,by simp,by omega,by omega⟩
theorem DesAt.step {s : ByteArray} {R : List Int × Int} {pos : Nat} {out : List Int} {run last : Int} (h : DesAt s R pos out run last) (hp : pos < s.size) {b : Nat} (hb : (s[pos]'hp).toNat = b) (hr : run ≠ 5) : DesAt s R (pos + 1) (out ++ [(b : Int)]) (if (b : Int) = last then run + 1 else 1) b:=by
 have e:=h.eq
 have h1:=h.len;have h2:=h.lo;have h3:=h.hi
 rw [drop_cons s pos hp hb,destuffL,if_neg hr] at e
 refine ⟨e,by rw [List.length_append];simp;omega, ?_, ?_⟩
 ·split <;> omega
 ·split <;> omega
theorem DesAt.skip {s : ByteArray} {R : List Int × Int} {pos : Nat} {out : List Int} {last : Int} (h : DesAt s R pos out 5 last) (hp : pos < s.size) {b : Nat} (hb : (s[pos]'hp).toNat = b) (hl : (b : Int) ≠ last) : DesAt s R (pos + 1) out 1 b:=by
 have e:=h.eq
 have h1:=h.len
 rw [drop_cons s pos hp hb,destuffL,if_pos rfl,if_neg hl] at e
 exact ⟨e,by omega,by omega,by omega⟩
theorem DesAt.over {s : ByteArray} {R : List Int × Int} {pos : Nat} {out : List Int} {run last : Int} (h : DesAt s R pos out run last) (hp : ¬ pos < s.size) : R = (out, -1):=by
 have e:=h.eq
 rw [drop_end s pos hp,destuffL] at e
 exact e.symm
structure Tch (w w' : World) (S : Nat → Prop) : Prop where
 os : w'.os = w.os
 tape : w'.tape = w.tape
 output : w'.output = w.output
 kept : Kept w w' S
theorem Tch.refl (w : World) (S : Nat → Prop) : Tch w w S:=⟨rfl,rfl,rfl,Kept.refl w S⟩
theorem Tch.size {w w' : World} {S : Nat → Prop} (h : Tch w w' S) : w.heap.size ≤ w'.heap.size:=h.kept.1
theorem Tch.block {w w' : World} {S : Nat → Prop} (h : Tch w w' S) {k : Nat} (hk : k < w.heap.size) (hn : ¬ S k) : w'.heap[k]? = w.heap[k]?:=h.kept.2 k hk hn
theorem Tch.mono {w w' : World} {S S' : Nat → Prop} (h : Tch w w' S) (hs : ∀ k,S k → S' k) : Tch w w' S':=⟨h.os,h.tape,h.output,h.kept.mono hs⟩
theorem Tch.then_ {w w1 w2 : World} {S S2 : Nat → Prop} (h : Tch w w1 S) (k : Tch w1 w2 S2) (hs : ∀ k,S2 k → S k ∨ w.heap.size ≤ k) : Tch w w2 S:=⟨k.os.trans h.os,k.tape.trans h.tape,k.output.trans h.output,h.kept.then_ k.kept hs⟩
theorem Tch.trans {w w1 w2 : World} {S : Nat → Prop} (h : Tch w w1 S) (k : Tch w1 w2 S) : Tch w w2 S:=h.then_ k fun _ h => .inl h
theorem Tch.drewN {w w1 : World} {S : Nat → Prop} (h : Tch w w1 S) (m : Nat) : Tch w (w1.drewN m) S:=⟨h.os,h.tape,h.output,h.kept.drewN m⟩
theorem Tch.drew {w w1 : World} {S : Nat → Prop} (h : Tch w w1 S) : Tch w w1.drew S:=⟨h.os,h.tape,h.output,h.kept.drew⟩
theorem Tch.alloc {w w1 : World} {S : Nat → Prop} (h : Tch w w1 S) (o : Obj) : Tch w (w1.alloc o) S:=⟨h.os,h.tape,h.output,h.kept.alloc o⟩
theorem Tch.setCell {w w1 : World} {S : Nat → Prop} (h : Tch w w1 S) {p : Addr} (hp : S p.block ∨ w.heap.size ≤ p.block) (u : Value) : Tch w (w1.setCell p u) S:=⟨h.os,h.tape,h.output,h.kept.setCell hp u⟩
theorem Tch.belowR {w w1 w2 : World} {S : Nat → Prop} (h : Tch w w1 S) (hb : Below w1.heap.size w1 w2) : Tch w w2 S:=⟨hb.os.trans h.os,hb.tape.trans h.tape,hb.output.trans h.output,h.kept.below hb⟩
theorem Tch.of_below {w w1 : World} (S : Nat → Prop) (hb : Below w.heap.size w w1) : Tch w w1 S:=(Tch.refl w S).belowR hb
theorem Tch.grown {w w1 w2 : World} {S : Nat → Prop} {row : Option Nat} (h : Tch w w1 S) (hg : w1.grownBy w2 row) (hr : ∀ k,row = some k → S k ∨ w.heap.size ≤ k) : Tch w w2 S:=⟨hg.os.trans h.os,hg.tape.trans h.tape,hg.output.trans h.output,Kept.of_grown hg h.kept hr⟩
theorem Tch.below {w0 w w' : World} {S : Nat → Prop} {B : Nat} (h : Tch w w' S) (hb : Below B w0 w) (hB : B ≤ w.heap.size) (hs : ∀ k,S k → B ≤ k) : Below B w0 w' :=
 hb.trans ⟨h.os,h.tape,h.output,h.size,fun k hk => h.block (by omega) (fun e => by have:=hs k e;omega)⟩
theorem Tch.R {α : Type} {d : Kd α} {e : Nat} {w w' : World} {S : Nat → Prop} {base : Nat} {ok : Nat → Prop} {v : Value} {xs : List α} (h : Tch w w' S) (hr : d.R e w base ok v xs) (hne : ∀ k,ok k → ¬ S k) : d.R e w' base ok v xs:=Kd.R_kept hr h.kept hne
theorem Tch.one {w w1 : World} {p : Nat} (h : Tch w w1 (fun k => k = p)) (j : Nat) (u : Value) : Tch w (w1.setCell ⟨p,j,none⟩ u) (fun k => k = p):=Tch.setCell (p:=⟨p,j,none⟩) h (.inl rfl) u
theorem Tch.refl1 (w : World) (p : Nat) : Tch w w (fun k => k = p):=Tch.refl w _
theorem tch_setCells (W : World) (g : Nat) : ∀ (vs : List Value) (o : Nat),Tch W (W.setCells g o vs) (fun k => k = g):=by
 intro vs
 induction vs generalizing W with
 | nil => intro o;exact Tch.refl _ _
 | cons v vs ih => intro o;exact ((Tch.refl1 W g).one o v).trans (ih (W.setCell ⟨g,o,none⟩ v) (o + 1))
theorem setCells_obj {g : Nat} {T : TypeId} : ∀ (vs : List Value) (o : Nat) (W : World) (cs : Array Value),W.heap[g]? = some (.cells cs T (0,0)) → o + vs.length ≤ cs.size →
  (W.setCells g o vs).heap[g]? = some (.cells (cs.toList.take o ++ vs ++ cs.toList.drop (o + vs.length)).toArray T (0,0)):=by
 intro vs
 induction vs with
 | nil =>
  intro o W cs h ho
  show W.heap[g]? = _
  rw [h,List.append_nil,List.length_nil,Nat.add_zero,List.take_append_drop]
 | cons v vs ih =>
  intro o W cs h ho
  rw [List.length_cons] at ho
  show ((W.setCell ⟨g,o,none⟩ v).setCells g (o + 1) vs).heap[g]? = _
  rw [ih (o + 1) _ _ (blk_set h o v) (by rw [Array.size_setIfInBounds];omega)]
  congr 3
  apply List.ext_getElem?
  intro i
  have hl : cs.toList.length = cs.size:=Array.length_toList
  simp only [Array.toList_setIfInBounds,List.getElem?_append,List.length_append,List.length_take,List.length_set,hl,List.length_cons,List.getElem?_take,List.getElem?_drop,List.getElem?_set,List.getElem?_cons]
  by_cases c1 : i < o
  ·rw [if_pos (by omega),if_pos (by omega),if_pos (by omega),if_neg (by omega),if_pos (by omega),if_pos (by omega),if_pos (by omega)]
  ·by_cases c2 : i = o
   ·subst c2
    rw [if_pos (by omega),if_pos (by omega),if_pos (by omega),if_pos rfl,if_pos (by omega),if_pos (by omega),if_neg (by omega),if_pos (by omega)]
   ·by_cases c3 : i < o + 1 + vs.length
    ·rw [if_pos (by omega),if_neg (by omega),if_pos (by omega),if_neg (by omega),if_neg (by omega)]
     congr 1;omega
    ·rw [if_neg (by omega),if_neg (by omega),if_neg (by omega)]
     congr 1;omega
section
variable {P : Program} {ops : Array Oper} {rest : List Oper} {o : Oper} {a : Act} {Q : Exit → Act → World → Prop}
theorem store_box {W : World} (hgd : o.guard = none) {t : TypeId} {p : Tmp} {v : Operand} (ho : o.op = .store t (.tmp p) v) (hN : o.dst = none) {g j : Nat} {cs cs' : Array Value} {T : TypeId} {u : Value} {seg : List Value}
  (hp : a.eval (.tmp p) = .pointer (some ⟨g,j,none⟩)) (hv : a.eval v = u) (hb : W.heap[g]? = some (.cells cs T (0,0))) (hu : u.cells.toList = seg) (ht : (P.info? t).map (·.size) = some seg.length) (h1 : seg.all (·.oneCell') = true) (hj' : Nat.ble (j + seg.length) cs.size = true)
  (hcs : (cs.toList.take j ++ seg ++ cs.toList.drop (j + seg.length)).toArray = cs') (h : ∀ w',w'.heap[g]? = some (.cells cs' T (0,0)) → Tch W w' (fun k => k = g) → wpList P ops Q rest a w') : wpList P ops Q (o :: rest) a W:=by
 have hj : j + seg.length ≤ cs.size:=Nat.le_of_ble_eq_true hj'
 have hrun:=run_store_run (P:=P) (o:=j) t u seg hb hu ht hj (List.all_eq_true.1 h1)
 refine wpList_plain hgd fun K hK => ?_
 unfold Oper.wp execOp
 simp only [ho,hp,hv,Sem.run_bind,Sem.run_pure,Result.andThen_ok,hrun]
 show K (a.put o.dst undef) _
 rw [hN]
 refine hK a _ (h _ ?_ (tch_setCells _ _ _ _))
 rw [setCells_obj seg j W cs hb hj,hcs]
theorem load_box {W : World} (hgd : o.guard = none) {t : TypeId} {p : Tmp} (ho : o.op = .load t (.tmp p)) {g j : Nat} {cs : Array Value} {T : TypeId} {seg : Array Value} {fs : Array Field}
  (hp : a.eval (.tmp p) = .pointer (some ⟨g,j,none⟩)) (hb : W.heap[g]? = some (.cells cs T (0,0))) (hu : P.underlying t = some (.struct fs)) (ht : (P.info? t).map (·.size) = some seg.size) (hs : (cs.toList.drop j).take seg.size = seg.toList)
  (h : wpList P ops Q rest (a.put o.dst (.agg seg)) W) : wpList P ops Q (o :: rest) a W:=by
 refine wpList_load_mid hgd t (.tmp p) ho g j hp seg.toList (.struct fs) (fun i v hi => ?_) hu rfl (by rw [Array.length_toList];exact ht) ?_
 ·rw [blk_cell hb, ← hs] at *
  rw [List.getElem?_take,List.getElem?_drop] at hi
  split at hi
  ·rw [Array.getElem?_toList] at hi;exact hi
  ·cases hi
 ·rw [Array.toArray_toList];exact h
end
theorem Tch.blk {w w' : World} {S : Nat → Prop} {k : Nat} {o : Obj} (h : Tch w w' S) (hk : w.heap[k]? = some o) (hn : ¬ S k) : w'.heap[k]? = some o:=blk_kept hk h.kept hn
section
variable {α : Type} {d : Kd α} {e base g T : Nat} {w w' : World} {ok : Nat → Prop} {v : Value} {xs : List α} {cells : Array Value}
theorem R_tch (h : d.R e w base ok v xs) (hb : w.heap[g]? = some (.cells cells T (0,0))) (ht : ∀ q,q ∈ e :: d.E → q ≠ T) (hT : Tch w w' (fun k => k = g)) : d.R e w' base ok v xs :=
 Kd.R_mono (Kd.R_kept (Kd.R_types h hb ht) hT.kept (fun _ hk => hk.2)) (fun _ hk => hk.1)
theorem S_tch (h : Kd.S d e w base ok v xs) (hb : w.heap[g]? = some (.cells cells T (0,0))) (ht : ∀ q,q ∈ e :: d.E → q ≠ T) (hT : Tch w w' (fun k => k = g)) : Kd.S d e w' base ok v xs :=
 Kd.S_mono (Kd.S_kept (Kd.S_types h hb ht) hT.kept (fun _ hk => hk.2)) (fun _ hk => hk.1)
end
theorem load_all {P : Program} {ops : Array Oper} {rest : List Oper} {o : Oper} {a : Act} {Q : Exit → Act → World → Prop} {W : World} (hgd : o.guard = none) {t : TypeId} {p : Tmp} (ho : o.op = .load t (.tmp p)) {g : Nat} {C : List Value} {T : TypeId} {fs : Array Field}
  (hp : a.eval (.tmp p) = .pointer (some ⟨g,0,none⟩)) (hb : W.heap[g]? = some (.cells ⟨C⟩ T (0,0))) (hu : P.underlying t = some (.struct fs)) (ht : (P.info? t).map (·.size) = some C.length)
  (h : wpList P ops Q rest (a.put o.dst (.agg ⟨C⟩)) W) : wpList P ops Q (o :: rest) a W :=
 load_box hgd ho (g:=g) (j:=0) (seg:=⟨C⟩) hp hb hu ht (by show (C.drop 0).take C.length = C;rw [List.drop_zero,List.take_length]) h
theorem store_all {P : Program} {ops : Array Oper} {rest : List Oper} {o : Oper} {a : Act} {Q : Exit → Act → World → Prop} {W : World} (hgd : o.guard = none) {t : TypeId} {p : Tmp} {v : Operand} (ho : o.op = .store t (.tmp p) v) (hN : o.dst = none) {g : Nat} {cs : Array Value} {C : List Value} {T : TypeId}
  (hp : a.eval (.tmp p) = .pointer (some ⟨g,0,none⟩)) (hv : a.eval v = .agg ⟨C⟩) (hb : W.heap[g]? = some (.cells cs T (0,0))) (ht : (P.info? t).map (·.size) = some C.length) (h1 : ∀ u ∈ C,u.oneCell' = true) (hs : cs.size = C.length)
  (h : ∀ w',w'.heap[g]? = some (.cells ⟨C⟩ T (0,0)) → Tch W w' (fun k => k = g) → wpList P ops Q rest a w') : wpList P ops Q (o :: rest) a W :=
 store_box hgd ho hN (g:=g) (j:=0) (cs:=cs) (seg:=C) hp hv hb rfl ht (List.all_eq_true.2 h1) (by rw [Nat.zero_add, ← hs];exact Nat.ble_self_eq_true _) (by
  have hl : cs.toList.length = cs.size:=Array.length_toList
  rw [List.take_zero,List.nil_append,Nat.zero_add,List.drop_of_length_le (by omega),List.append_nil]) h
theorem clear_run {P : Program} {W : World} {t kt et : TypeId} {r : Nat} {es : Array MapEntry} {cl : Nat} (hm : P.underlying t = some (.map kt et)) (hb : W.heap[r]? = some (.map es cl)) (ty : TypeId) :
  ∃ W2,Sem.run P (Builtin.clear_ #[t] ty #[.map (some r)]) W = .ok (.tuple #[]) W2 ∧ W2.heap[r]? = some (.map #[] cl) ∧ Tch W W2 (fun k => k = r):=by
 refine ⟨{ W with heap:=W.heap.setIfInBounds r (.map #[] cl) }, ?_,(Go.MapKept.heap_set hb).1,⟨rfl,rfl,rfl,⟨by simp,fun k hk hn => (Go.MapKept.heap_set hb).2 k hn⟩⟩⟩
 have e : Sem.run P (Builtin.clear_ #[t] ty #[.map (some r)]) W = (Builtin.clear_ #[t] ty #[.map (some r)]).run P W:=rfl
 rw [e]
 simp [Builtin.clear_,run_underlying hm,Go.MapKept.run_getObj_map hb,Go.MapKept.run_setObj_map _ hb,Result.andThen]
def MapAt (w : World) (m : Nat) (f : Int → Option Int) (n : Nat) : Prop :=
 ∃ es cl,w.heap[m]? = some (.map es cl) ∧ Go.MapKept.Stamped es cl ∧ (∀ x ∈ es.toList, ∃ k v,x.key = .int .i64 k ∧ x.val = .int .i64 v ∧ f k = some v) ∧ (∀ k v,f k = some v → ∃ x ∈ es.toList,x.key = .int .i64 k ∧ x.val = .int .i64 v) ∧ es.size = n
theorem MapAt.tch {w w' : World} {S : Nat → Prop} {m n : Nat} {f : Int → Option Int} (h : MapAt w m f n) (hT : Tch w w' S) (hn : ¬ S m) : MapAt w' m f n:=by
 obtain ⟨es,cl,hb,h1⟩:=h
 exact ⟨es,cl,hT.blk hb hn,h1⟩
theorem MapAt.below {w w' : World} {m n : Nat} {f : Int → Option Int} (h : MapAt w m f n) (hb : Below w.heap.size w w') : MapAt w' m f n:=h.tch (Tch.of_below (fun _ => False) hb) (fun h => h)
theorem MapAt.new {w : World} {m cl : Nat} (h : w.heap[m]? = some (.map #[] cl)) : MapAt w m (fun _ => none) 0 :=
 ⟨#[],cl,h,Go.MapKept.stamped_empty _,by simp,by simp,rfl⟩
theorem MapAt.congr {w : World} {m n : Nat} {f g : Int → Option Int} (h : MapAt w m f n) (he : ∀ k,f k = g k) : MapAt w m g n:=by
 have : f = g:=funext he
 rw [← this];exact h
theorem i64_inj {a b : Int} (h : Value.int .i64 a = Value.int .i64 b) : a = b:=by injection h
section
variable {P : Program} {W : World} {t kt et : TypeId} {m n : Nat} {f : Int → Option Int} {k v : Int}
theorem MapAt.find (h : MapAt W m f n) (k : Int) : ∃ es cl,W.heap[m]? = some (.map es cl) ∧ es.size = n ∧
  ((f k = none ∧ Instr.findNow (.int .i64) (.int .i64 k) es.toList 0 = some none ∧ ∀ x ∈ es.toList,x.key ≠ .int .i64 k) ∨
   ∃ j e v,f k = some v ∧ Instr.findNow (.int .i64) (.int .i64 k) es.toList 0 = some (some (j, .int .i64 v)) ∧ es[j]? = some e ∧ e.key = .int .i64 k ∧ e.val = .int .i64 v):=by
 obtain ⟨es,cl,hb,hs,h1,h2,hz⟩:=h
 have hk : Go.MapKept.IsKey (.int .i64) (.int .i64 k):=rfl
 have hks : ∀ x ∈ es.toList,Go.MapKept.IsKey (.int .i64) x.key:=fun x hx => by
  obtain ⟨k',v',e,_⟩:=h1 x hx
  rw [e];rfl
 refine ⟨es,cl,hb,hz, ?_⟩
 rcases Go.MapKept.findNow_spec hk es.toList 0 hks with ⟨h3,h4⟩ | ⟨j,e,h3,h4,h5⟩
 ·left
  refine ⟨?_,h3,h4⟩
  cases e : f k with
  | none => rfl
  | some v =>
   obtain ⟨x,hx,hkx,_⟩:=h2 k v e
   exact absurd hkx (h4 x hx)
 ·right
  have hm : e ∈ es.toList:=List.mem_of_getElem? h4
  obtain ⟨k',v',e1,e2,e3⟩:=h1 e hm
  have : k' = k:=i64_inj (e1.symm.trans h5)
  subst this
  exact ⟨j,e,v',e3,by rw [h3,e2,Nat.zero_add],by rw [← Array.getElem?_toList];exact h4,h5,e2⟩
theorem tch_map {o o' : Obj} (hb : W.heap[m]? = some o) : Tch W { W with heap:=W.heap.setIfInBounds m o' } (fun k => k = m) :=
 ⟨rfl,rfl,rfl,⟨by simp,fun k hk hn => (Go.MapKept.heap_set hb).2 k hn⟩⟩
theorem update_run (hm : P.underlying t = some (.map kt et)) (hd : P.underlying kt = some (.int .i64)) (h : MapAt W m f n) (k v : Int) :
  ∃ W2,(Instr.mapUpdate t (.map (some m)) (.int .i64 k) (.int .i64 v)).run P W = .ok () W2 ∧ MapAt W2 m (fun x => if x = k then some v else f x) (if (f k).isSome then n else n + 1) ∧ Tch W W2 (fun k => k = m):=by
 have hk : Go.MapKept.IsKey (.int .i64) (.int .i64 k):=rfl
 have h':=h
 obtain ⟨es,cl,hb,hs,ha,hc,hz⟩:=h'
 obtain ⟨es',cl',hb',hz',hh⟩:=h.find k
 rw [hb] at hb'
 injection hb' with hb'
 injection hb' with q1 q2
 subst q1 q2
 rcases hh with ⟨h0,h1,h2⟩ | ⟨j,e,v0,h0,h1,h2,h3,h4⟩
 ·refine ⟨{ W with heap:=W.heap.setIfInBounds m (.map (es.push { key := .int .i64 k,val := .int .i64 v,born:=cl }) (cl + 1)) },by simp [Instr.mapUpdate,run_underlying hm,Go.MapKept.run_getObj_map hb,Go.MapKept.run_checkKey hd hk,Go.MapKept.run_findKey hd h1,Go.MapKept.run_setObj_map _ hb,Result.andThen],⟨_,_,(Go.MapKept.heap_set hb).1,Go.MapKept.stamped_push hs h2, ?_, ?_, ?_⟩,tch_map hb⟩
  ·intro x hx
   simp only [Array.toList_push,List.mem_append,List.mem_singleton] at hx
   rcases hx with hx | rfl
   ·obtain ⟨k',v',e1,e2,e3⟩:=ha x hx
    refine ⟨k',v',e1,e2, ?_⟩
    show (if k' = k then some v else f k') = _
    rw [if_neg (fun e => by rw [e,h0] at e3;cases e3)]
    exact e3
   ·exact ⟨k,v,rfl,rfl,if_pos rfl⟩
  ·intro k' v' he
   have he' : (if k' = k then some v else f k') = some v':=he
   simp only [Array.toList_push,List.mem_append,List.mem_singleton]
   by_cases c : k' = k
   ·rw [if_pos c] at he'
    cases he'
    exact ⟨_, .inr rfl,by rw [c],rfl⟩
   ·rw [if_neg c] at he'
    obtain ⟨x,hx,q⟩:=hc k' v' he'
    exact ⟨x, .inl hx,q⟩
  ·rw [Array.size_push,hz,h0];rfl
 ·have hkey : ∀ e',es[j]? = some e' → ({ e' with key := .int .i64 k,val := .int .i64 v } : MapEntry).key = e'.key:=fun e' he' => by rw [h2] at he';cases he';exact h3.symm
  have hje : es.toList[j]? = some e:=by rw [Array.getElem?_toList];exact h2
  have hnd : ∀ i x,es.toList[i]? = some x → x.key = .int .i64 k → i = j:=by
   intro i x hi hx
   have h5 : (es.toList.map (·.key))[i]? = some (.int .i64 k):=by rw [List.getElem?_map,hi];simp [hx]
   have h6 : (es.toList.map (·.key))[j]? = some (.int .i64 k):=by rw [List.getElem?_map,hje];simp [h3]
   obtain ⟨l5,_⟩:=List.getElem?_eq_some_iff.1 h5
   exact (List.getElem?_inj l5 hs.2.2).1 (h5.trans h6.symm)
  refine ⟨{ W with heap:=W.heap.setIfInBounds m (.map (es.modify j fun e => { e with key := .int .i64 k,val := .int .i64 v }) cl) },by simp [Instr.mapUpdate,run_underlying hm,Go.MapKept.run_getObj_map hb,Go.MapKept.run_checkKey hd hk,Go.MapKept.run_findKey hd h1,h2,h3,Go.MapKept.run_keyThatStays hk,Go.MapKept.run_setObj_map _ hb,Result.andThen],⟨_,_,(Go.MapKept.heap_set hb).1,Go.MapKept.stamped_modify hs _ _ (fun _ _ => rfl) (fun e' _ he' => hkey e' he'), ?_, ?_, ?_⟩,tch_map hb⟩
  ·intro x hx
   obtain ⟨i,hi⟩:=List.mem_iff_getElem?.1 hx
   rw [Array.getElem?_toList,Array.getElem?_modify] at hi
   by_cases c : j = i
   ·subst c
    rw [if_pos rfl,h2] at hi
    cases hi
    exact ⟨k,v,rfl,rfl,if_pos rfl⟩
   ·rw [if_neg c] at hi
    have hi' : es.toList[i]? = some x:=by rw [Array.getElem?_toList];exact hi
    obtain ⟨k',v',e1,e2,e3⟩:=ha x (List.mem_of_getElem? hi')
    refine ⟨k',v',e1,e2, ?_⟩
    show (if k' = k then some v else f k') = _
    rw [if_neg (fun q => c (hnd i x hi' (by rw [e1,q])).symm)]
    exact e3
  ·intro k' v' he
   have he' : (if k' = k then some v else f k') = some v':=he
   by_cases c : k' = k
   ·rw [if_pos c] at he'
    cases he'
    refine ⟨{ e with key := .int .i64 k,val := .int .i64 v }, ?_,by rw [c],rfl⟩
    refine List.mem_iff_getElem?.2 ⟨j, ?_⟩
    rw [Array.getElem?_toList,Array.getElem?_modify,if_pos rfl,h2];rfl
   ·rw [if_neg c] at he'
    obtain ⟨x,hx,q1,q2⟩:=hc k' v' he'
    obtain ⟨i,hi⟩:=List.mem_iff_getElem?.1 hx
    refine ⟨x,List.mem_iff_getElem?.2 ⟨i, ?_⟩,q1,q2⟩
    rw [Array.getElem?_toList,Array.getElem?_modify,if_neg, ← Array.getElem?_toList]
    ·exact hi
    ·rintro rfl
     rw [hje] at hi
     cases hi
     exact c (i64_inj (q1.symm.trans h3))
  ·rw [Array.size_modify,hz,h0];rfl
end
theorem map_event {P : Program} {ops : Array Oper} {rest : List Oper} {o : Oper} {a : Act} {Q : Exit → Act → World → Prop} {W : World} (hgd : o.guard = none)
  (hrun : (execOp a.eval o).run P W = .ok (.value (.map (some W.heap.size))) (W.alloc (.map #[] 0)))
  (h : ∀ m,m = W.heap.size → ∀ w1,w1.heap[m]? = some (.map #[] 0) → Below W.heap.size W w1 → wpList P ops Q rest (a.put o.dst (.map (some m))) w1) : wpList P ops Q (o :: rest) a W :=
 Kd.event_run hgd hrun (h _ rfl _ (blk_new W _) (below_alloc (Below.refl _ _) _))
structure HV where
 cb : Int
 cf : Int
 cp : Int
 ce : Int
 fs : List S89
 bs : List S87
 fr : List S45
 ev : List S56
 lost : Int
 stamp : Int
structure HRows (w : World) (base : Nat) (ok : Nat → Prop) (o : Nat → Nat) (h : HV) (vf vb vq ve : Value) : Prop where
 f : (k89).R 89 w base (fun k => ok k ∧ o k = 0) vf h.fs
 b : Kd.S k87 87 w base (fun k => ok k ∧ o k = 1) vb h.bs
 q : Kd.S k45 45 w base (fun k => ok k ∧ o k = 2) vq h.fr
 e : Kd.S k56 56 w base (fun k => ok k ∧ o k = 3) ve h.ev
section
variable {w w1 : World} {base : Nat} {ok ok' : Nat → Prop} {o o' : Nat → Nat} {h : HV} {vf vb vq ve : Value}
theorem HRows.step (H : HRows w base ok o h vf vb vq ve) (hm : ∀ k,ok k → k < w.heap.size → w1.heap[k]? = w.heap[k]?) : HRows w1 base ok o h vf vb vq ve :=
 ⟨Kd.R_step H.f (fun k hk => hm k hk.1),Kd.S_step H.b (fun k hk => hm k hk.1),Kd.S_step H.q (fun k hk => hm k hk.1),Kd.S_step H.e (fun k hk => hm k hk.1)⟩
theorem HRows.mono (H : HRows w base ok o h vf vb vq ve) (hok : ∀ k,ok k → ok' k) : HRows w base ok' o h vf vb vq ve :=
 ⟨Kd.R_mono H.f (fun k hk => ⟨hok k hk.1,hk.2⟩),Kd.S_mono H.b (fun k hk => ⟨hok k hk.1,hk.2⟩),Kd.S_mono H.q (fun k hk => ⟨hok k hk.1,hk.2⟩),Kd.S_mono H.e (fun k hk => ⟨hok k hk.1,hk.2⟩)⟩
def Mine (w : World) (base k : Nat) : Prop:=base ≤ k ∧ k < w.heap.size ∧ ∃ q,(q = 89 ∨ q = 87 ∨ q = 45 ∨ q = 56 ∨ q = 5) ∧ ∃ cells,w.heap[k]? = some (.cells cells q (0,0))
theorem HRows.bound (H : HRows w base ok o h vf vb vq ve) : HRows w base (fun k => ok k ∧ Mine w base k) o h vf vb vq ve:=by
 refine ⟨Kd.R_mono (Kd.R_bound H.f) ?_,Kd.S_mono (Kd.S_bound H.b) ?_,Kd.S_mono (Kd.S_bound H.q) ?_,Kd.S_mono (Kd.S_bound H.e) ?_⟩
 ·rintro k ⟨⟨h1,h2⟩,h3,h4,q,hq,hc⟩
  have hq : q ∈ [89]:=hq
  exact ⟨⟨h1,h3,h4,q, .inl (List.mem_singleton.1 hq),hc⟩,h2⟩
 ·rintro k ⟨⟨h1,h2⟩,h3,h4,q,hq,hc⟩
  have hq : q ∈ [87,5]:=hq
  rcases List.mem_cons.1 hq with e | e
  ·exact ⟨⟨h1,h3,h4,q, .inr (.inl e),hc⟩,h2⟩
  ·exact ⟨⟨h1,h3,h4,q, .inr (.inr (.inr (.inr (List.mem_singleton.1 e)))),hc⟩,h2⟩
 ·rintro k ⟨⟨h1,h2⟩,h3,h4,q,hq,hc⟩
  have hq : q ∈ [45,5]:=hq
  rcases List.mem_cons.1 hq with e | e
  ·exact ⟨⟨h1,h3,h4,q, .inr (.inr (.inl e)),hc⟩,h2⟩
  ·exact ⟨⟨h1,h3,h4,q, .inr (.inr (.inr (.inr (List.mem_singleton.1 e)))),hc⟩,h2⟩
 ·rintro k ⟨⟨h1,h2⟩,h3,h4,q,hq,hc⟩
  have hq : q ∈ [56,5]:=hq
  rcases List.mem_cons.1 hq with e | e
  ·exact ⟨⟨h1,h3,h4,q, .inr (.inr (.inr (.inl e))),hc⟩,h2⟩
  ·exact ⟨⟨h1,h3,h4,q, .inr (.inr (.inr (.inr (List.mem_singleton.1 e)))),hc⟩,h2⟩
theorem HRows.reown (H : HRows w base ok o h vf vb vq ve) (ho : ∀ k,k < w.heap.size → o' k = o k) : HRows w base ok o' h vf vb vq ve:=by
 have H:=H.bound
 exact ⟨Kd.R_mono H.f (fun k hk => ⟨hk.1.1,(ho k hk.1.2.2.1).trans hk.2⟩),Kd.S_mono H.b (fun k hk => ⟨hk.1.1,(ho k hk.1.2.2.1).trans hk.2⟩),Kd.S_mono H.q (fun k hk => ⟨hk.1.1,(ho k hk.1.2.2.1).trans hk.2⟩),Kd.S_mono H.e (fun k hk => ⟨hk.1.1,(ho k hk.1.2.2.1).trans hk.2⟩)⟩
theorem HRows.lower {base' : Nat} (H : HRows w base ok o h vf vb vq ve) (hb : base' ≤ base) : HRows w base' ok o h vf vb vq ve :=
 ⟨Kd.R_lower H.f hb,Kd.S_lower H.b hb,Kd.S_lower H.q hb,Kd.S_lower H.e hb⟩
theorem HRows.below (H : HRows w base ok o h vf vb vq ve) (hb : Below w.heap.size w w1) : HRows w1 base ok o h vf vb vq ve:=H.step (fun k _ hk => hb.block k hk)
theorem HRows.tch {S : Nat → Prop} (H : HRows w base ok o h vf vb vq ve) (hT : Tch w w1 S) (hn : ∀ k,ok k → ¬ S k) : HRows w1 base ok o h vf vb vq ve:=H.step (fun k ho hk => hT.block hk (hn k ho))
theorem Mine.ne {g T : Nat} {cells : Array Value} {k : Nat} (h : Mine w base k) (hb : w.heap[g]? = some (.cells cells T (0,0))) (ht : T ≠ 89 ∧ T ≠ 87 ∧ T ≠ 45 ∧ T ≠ 56 ∧ T ≠ 5) : k ≠ g:=by
 rintro rfl
 obtain ⟨_,_,q,hq,cs,hc⟩:=h
 rw [hb] at hc
 injection hc with hc
 injection hc with _ hc _
 subst hc
 obtain ⟨t1,t2,t3,t4,t5⟩:=ht
 rcases hq with e | e | e | e | e
 ·exact t1 e
 ·exact t2 e
 ·exact t3 e
 ·exact t4 e
 ·exact t5 e
theorem Mine.ne_map {m n : Nat} {f : Int → Option Int} {k : Nat} (h : Mine w base k) (hm : MapAt w m f n) : k ≠ m:=by
 rintro rfl
 obtain ⟨_,_,q,hq,cs,hc⟩:=h
 obtain ⟨es,cl,hb,_⟩:=hm
 rw [hb] at hc
 cases hc
theorem HRows.newF {vf' : Value} {l : List S89} (H : HRows w base ok o h vf vb vq ve) (hm : ∀ k,ok k → o k ≠ 0 → k < w.heap.size → w1.heap[k]? = w.heap[k]?)
  (hr : (k89).R 89 w1 base (fun k => (ok k ∧ o k = 0) ∨ w.heap.size ≤ k) vf' l) : ∃ o',(∀ k,k < w.heap.size → o' k = o k) ∧ HRows w1 base (fun k => ok k ∨ w.heap.size ≤ k) o' { h with fs:=l } vf' vb vq ve:=by
 have Hb:=H.bound
 refine ⟨fun k => if k < w.heap.size then o k else 0,fun k hk => if_pos hk,Kd.R_mono hr ?_,Kd.S_mono (Kd.S_step Hb.b (fun k hk hl => hm k hk.1.1 (by omega) hl)) ?_,Kd.S_mono (Kd.S_step Hb.q (fun k hk hl => hm k hk.1.1 (by omega) hl)) ?_,Kd.S_mono (Kd.S_step Hb.e (fun k hk hl => hm k hk.1.1 (by omega) hl)) ?_⟩
 ·rintro k (hk | hk)
  ·exact ⟨.inl hk.1,by show (if k < w.heap.size then o k else 0) = 0;split;exact hk.2;rfl⟩
  ·exact ⟨.inr hk,if_neg (by omega)⟩
 all_goals exact fun k hk => ⟨.inl hk.1.1,(if_pos hk.1.2.2.1).trans hk.2⟩
theorem HRows.newB {vb' : Value} {l : List S87} (H : HRows w base ok o h vf vb vq ve) (hm : ∀ k,ok k → o k ≠ 1 → k < w.heap.size → w1.heap[k]? = w.heap[k]?)
  (hr : Kd.S k87 87 w1 base (fun k => (ok k ∧ o k = 1) ∨ w.heap.size ≤ k) vb' l) : ∃ o',(∀ k,k < w.heap.size → o' k = o k) ∧ HRows w1 base (fun k => ok k ∨ w.heap.size ≤ k) o' { h with bs:=l } vf vb' vq ve:=by
 have Hb:=H.bound
 refine ⟨fun k => if k < w.heap.size then o k else 1,fun k hk => if_pos hk,Kd.R_mono (Kd.R_step Hb.f (fun k hk hl => hm k hk.1.1 (by omega) hl)) ?_,Kd.S_mono hr ?_,Kd.S_mono (Kd.S_step Hb.q (fun k hk hl => hm k hk.1.1 (by omega) hl)) ?_,Kd.S_mono (Kd.S_step Hb.e (fun k hk hl => hm k hk.1.1 (by omega) hl)) ?_⟩
 rotate_left
 ·rintro k (hk | hk)
  ·exact ⟨.inl hk.1,by show (if k < w.heap.size then o k else 1) = 1;split;exact hk.2;rfl⟩
  ·exact ⟨.inr hk,if_neg (by omega)⟩
 all_goals exact fun k hk => ⟨.inl hk.1.1,(if_pos hk.1.2.2.1).trans hk.2⟩
theorem HRows.newQ {vq' : Value} {l : List S45} (H : HRows w base ok o h vf vb vq ve) (hm : ∀ k,ok k → o k ≠ 2 → k < w.heap.size → w1.heap[k]? = w.heap[k]?)
  (hr : Kd.S k45 45 w1 base (fun k => (ok k ∧ o k = 2) ∨ w.heap.size ≤ k) vq' l) : ∃ o',(∀ k,k < w.heap.size → o' k = o k) ∧ HRows w1 base (fun k => ok k ∨ w.heap.size ≤ k) o' { h with fr:=l } vf vb vq' ve:=by
 have Hb:=H.bound
 refine ⟨fun k => if k < w.heap.size then o k else 2,fun k hk => if_pos hk,Kd.R_mono (Kd.R_step Hb.f (fun k hk hl => hm k hk.1.1 (by omega) hl)) ?_,Kd.S_mono (Kd.S_step Hb.b (fun k hk hl => hm k hk.1.1 (by omega) hl)) ?_,Kd.S_mono hr ?_,Kd.S_mono (Kd.S_step Hb.e (fun k hk hl => hm k hk.1.1 (by omega) hl)) ?_⟩
 rotate_left 2
 ·rintro k (hk | hk)
  ·exact ⟨.inl hk.1,by show (if k < w.heap.size then o k else 2) = 2;split;exact hk.2;rfl⟩
  ·exact ⟨.inr hk,if_neg (by omega)⟩
 all_goals exact fun k hk => ⟨.inl hk.1.1,(if_pos hk.1.2.2.1).trans hk.2⟩
theorem HRows.newE {ve' : Value} {l : List S56} (H : HRows w base ok o h vf vb vq ve) (hm : ∀ k,ok k → o k ≠ 3 → k < w.heap.size → w1.heap[k]? = w.heap[k]?)
  (hr : Kd.S k56 56 w1 base (fun k => (ok k ∧ o k = 3) ∨ w.heap.size ≤ k) ve' l) : ∃ o',(∀ k,k < w.heap.size → o' k = o k) ∧ HRows w1 base (fun k => ok k ∨ w.heap.size ≤ k) o' { h with ev:=l } vf vb vq ve':=by
 have Hb:=H.bound
 refine ⟨fun k => if k < w.heap.size then o k else 3,fun k hk => if_pos hk,Kd.R_mono (Kd.R_step Hb.f (fun k hk hl => hm k hk.1.1 (by omega) hl)) ?_,Kd.S_mono (Kd.S_step Hb.b (fun k hk hl => hm k hk.1.1 (by omega) hl)) ?_,Kd.S_mono (Kd.S_step Hb.q (fun k hk hl => hm k hk.1.1 (by omega) hl)) ?_,Kd.S_mono hr ?_⟩
 rotate_left 3
 ·rintro k (hk | hk)
  ·exact ⟨.inl hk.1,by show (if k < w.heap.size then o k else 3) = 3;split;exact hk.2;rfl⟩
  ·exact ⟨.inr hk,if_neg (by omega)⟩
 all_goals exact fun k hk => ⟨.inl hk.1.1,(if_pos hk.1.2.2.1).trans hk.2⟩
theorem S_own_ok {α : Type} {d : Kd α} {e : Nat} {v : Value} {xs : List α} {k : Nat} (H : Kd.S d e w base ok v xs) (hk : v.ownBlock = some k) : ok k:=by
 obtain ⟨f,h0,_⟩:=H
 exact h0 k hk
theorem R_own_ok {α : Type} {d : Kd α} {e : Nat} {v : Value} {xs : List α} {k : Nat} (H : d.R e w base ok v xs) (hk : v.ownBlock = some k) : ok k:=H.1 k hk
end
def hostC (h : HV) (vf vb vq ve : Value) : List Value := [.int .i64 h.cb, .int .i64 h.cf, .int .i64 h.cp, .int .i64 h.ce,vf,vb,vq,ve, .int .i64 h.lost, .int .i64 h.stamp]
def HRead (w : World) (h : HV) (C : List Value) : Prop :=
 ∃ Af cf Ab cb Aq cq Ae ce,C = hostC h (.slice Af h.fs.length cf) (.slice Ab h.bs.length cb) (.slice Aq h.fr.length cq) (.slice Ae h.ev.length ce) ∧
  (k89).C w Af h.fs.length h.fs ∧ h.fs.length ≤ cf ∧ (k87).C w Ab h.bs.length h.bs ∧ h.bs.length ≤ cb ∧ (k45).C w Aq h.fr.length h.fr ∧ h.fr.length ≤ cq ∧ (k56).C w Ae h.ev.length h.ev ∧ h.ev.length ≤ ce
def HOwn (w : World) (base : Nat) (ok : Nat → Prop) (h : HV) (C : List Value) : Prop := ∃ vf vb vq ve o,C = hostC h vf vb vq ve ∧ HRows w base ok o h vf vb vq ve
theorem HRead.below {w w1 : World} {h : HV} {C : List Value} (H : HRead w h C) (hb : Below w.heap.size w w1) : HRead w1 h C:=by
 obtain ⟨Af,cf,Ab,cb,Aq,cq,Ae,ce,e,h1,h2,h3,h4,h5,h6,h7,h8⟩:=H
 exact ⟨Af,cf,Ab,cb,Aq,cq,Ae,ce,e,Kd.C_below h1 hb,h2,Kd.C_below h3 hb,h4,Kd.C_below h5 hb,h6,Kd.C_below h7 hb,h8⟩
theorem HRows.read {w : World} {base : Nat} {ok : Nat → Prop} {o : Nat → Nat} {h : HV} {vf vb vq ve : Value} (H : HRows w base ok o h vf vb vq ve) : HRead w h (hostC h vf vb vq ve):=by
 obtain ⟨Af,cf,rfl,lf,gf⟩:=Kd.R_reads H.f
 obtain ⟨Ab,cb,rfl,lb,gb⟩:=Kd.S_reads H.b
 obtain ⟨Aq,cq,rfl,lq,gq⟩:=Kd.S_reads H.q
 obtain ⟨Ae,ce,rfl,le,ge⟩:=Kd.S_reads H.e
 exact ⟨Af,cf,Ab,cb,Aq,cq,Ae,ce,rfl,gf,lf,gb,lb,gq,lq,ge,le⟩
theorem HOwn.read {w : World} {base : Nat} {ok : Nat → Prop} {h : HV} {C : List Value} (H : HOwn w base ok h C) : HRead w h C:=by
 obtain ⟨vf,vb,vq,ve,o,rfl,H⟩:=H
 exact H.read
theorem HOwn.below {w w1 : World} {base : Nat} {ok : Nat → Prop} {h : HV} {C : List Value} (H : HOwn w base ok h C) (hb : Below w.heap.size w w1) : HOwn w1 base ok h C:=by
 obtain ⟨vf,vb,vq,ve,o,e,H⟩:=H
 exact ⟨vf,vb,vq,ve,o,e,H.below hb⟩
theorem HOwn.bound {w : World} {base : Nat} {ok : Nat → Prop} {h : HV} {C : List Value} (H : HOwn w base ok h C) : HOwn w base (fun k => ok k ∧ Mine w base k) h C:=by
 obtain ⟨vf,vb,vq,ve,o,e,H⟩:=H
 exact ⟨vf,vb,vq,ve,o,e,H.bound⟩
theorem HOwn.tch {w w1 : World} {S : Nat → Prop} {base : Nat} {ok : Nat → Prop} {h : HV} {C : List Value} (H : HOwn w base ok h C) (hT : Tch w w1 S) (hn : ∀ k,ok k → ¬ S k) : HOwn w1 base ok h C:=by
 obtain ⟨vf,vb,vq,ve,o,e,H⟩:=H
 exact ⟨vf,vb,vq,ve,o,e,H.tch hT hn⟩
theorem HOwn.mono {w : World} {base : Nat} {ok ok' : Nat → Prop} {h : HV} {C : List Value} (H : HOwn w base ok h C) (hok : ∀ k,ok k → ok' k) : HOwn w base ok' h C:=by
 obtain ⟨vf,vb,vq,ve,o,e,H⟩:=H
 exact ⟨vf,vb,vq,ve,o,e,H.mono hok⟩
theorem HOwn.lower {w : World} {base base' : Nat} {ok : Nat → Prop} {h : HV} {C : List Value} (H : HOwn w base ok h C) (hb : base' ≤ base) : HOwn w base' ok h C:=by
 obtain ⟨vf,vb,vq,ve,o,e,H⟩:=H
 exact ⟨vf,vb,vq,ve,o,e,H.lower hb⟩
def sideP (x : HV) (m : Nat) (l1 l2 : Int) (vf vb vq ve : Value) : Array Value := #[.int .i64 x.cb, .int .i64 x.cf, .int .i64 x.cp, .int .i64 x.ce,vf,vb, .map (some m), .int .i64 l1,vq, .int .i64 l2,ve, .int .i64 x.lost, .int .i64 x.stamp]
structure SideP (w0 w : World) (p m : Nat) (x : HV) (l1 l2 : Int) (vf vb vq ve : Value) (f : Int → Option Int) (n : Nat) : Prop where
 bel : Below w0.heap.size w0 w
 blk : w.heap[p]? = some (.cells (sideP x m l1 l2 vf vb vq ve) 128 (0,0))
 map : MapAt w m f n
 rows : ∃ o,HRows w w0.heap.size (fun _ => True) o x vf vb vq ve
 hp : w0.heap.size ≤ p
 hm : w0.heap.size ≤ m
section
variable {w0 w we w1 w3 : World} {p m : Nat} {x : HV} {l1 l2 : Int} {vf vb vq ve : Value} {f f' : Int → Option Int} {n n' : Nat} {o : Nat → Nat}
theorem SideP.below (H : SideP w0 w p m x l1 l2 vf vb vq ve f n) (hb : Below w.heap.size w we) : SideP w0 we p m x l1 l2 vf vb vq ve f n:=by
 obtain ⟨h1,h2,h3,⟨o,h4⟩,h5,h6⟩:=H
 exact ⟨below_then h1 h1.size hb,blk_below h2 hb,h3.below hb,⟨o,h4.below hb⟩,h5,h6⟩
theorem SideP.pm (H : SideP w0 w p m x l1 l2 vf vb vq ve f n) : p ≠ m:=by
 rintro rfl
 obtain ⟨es,cl,hb,_⟩:=H.map
 rw [H.blk] at hb
 cases hb
theorem side_other {cells : Array Value} (hb : w.heap[p]? = some (.cells cells 128 (0,0))) {k : Nat} (hk : Mine w w0.heap.size k) : k ≠ p:=hk.ne hb (by decide)
theorem SideP.mapped (H : SideP w0 w p m x l1 l2 vf vb vq ve f n) (hT : Tch w we (fun k => k = m)) (hm : MapAt we m f' n') : SideP w0 we p m x l1 l2 vf vb vq ve f' n':=by
 have hpm:=H.pm
 have hmp:=H.map
 obtain ⟨h1,h2,h3,⟨o,h4⟩,h5,h6⟩:=H
 exact ⟨hT.below h1 h1.size (fun k hk => hk ▸ h6),hT.blk h2 hpm,hm,⟨o,(h4.bound.tch hT (fun k hk => hk.2.ne_map hmp)).mono (fun _ _ => trivial)⟩,h5,h6⟩
theorem SideP.put {x' : HV} {l1' l2' : Int} (H : SideP w0 w p m x l1 l2 vf vb vq ve f n) (hT : Tch w we (fun k => k = p)) (hx : we.heap[p]? = some (.cells (sideP x' m l1' l2' vf vb vq ve) 128 (0,0)))
  (hf : x'.fs = x.fs) (hb : x'.bs = x.bs) (hq : x'.fr = x.fr) (he : x'.ev = x.ev) : SideP w0 we p m x' l1' l2' vf vb vq ve f n:=by
 have hpm:=H.pm
 obtain ⟨h1,h2,h3,⟨o,h4⟩,h5,h6⟩:=H
 have h7:=(h4.bound.tch hT (fun k hk => side_other h2 hk.2)).mono (ok':=fun _ => True) (fun _ _ => trivial)
 exact ⟨hT.below h1 h1.size (fun k hk => hk ▸ h5),hx,h3.tch hT (fun e => hpm e.symm),⟨o,by rw [hf];exact h7.f,by rw [hb];exact h7.b,by rw [hq];exact h7.q,by rw [he];exact h7.e⟩,h5,h6⟩
theorem reown (H : HRows w w0.heap.size (fun _ => True) o x vf vb vq ve) (i : Nat) : HRows w w0.heap.size (fun _ => True) (fun k => if k < w.heap.size then o k else i) x vf vb vq ve:=H.reown (fun k hk => if_pos hk)
theorem S_lt_own {α : Type} {d : Kd α} {e base : Nat} {ok : Nat → Prop} {v : Value} {xs : List α} (h : Kd.S d e w base ok v xs) : Kd.S d e w base (fun k => ok k ∧ k < w.heap.size) v xs:=Kd.S_mono (Kd.S_bound h) (fun _ hk => ⟨hk.1,hk.2.2.1⟩)
theorem keep_of {v : Value} (hT : Tch we w3 (fun k => k = p ∨ some k = v.ownBlock)) (H : HRows we w0.heap.size (fun _ => True) o x vf vb vq ve) {cells : Array Value} (hb : we.heap[p]? = some (.cells cells 128 (0,0))) {i : Nat} (hv : ∀ k,v.ownBlock = some k → o k = i) :
  ∀ k,(True ∧ Mine we w0.heap.size k) → o k ≠ i → k < we.heap.size → w3.heap[k]? = we.heap[k]?:=by
 intro k hk hn hl
 refine hT.block hl ?_
 rintro (e | e)
 ·exact side_other hb hk.2 e
 ·exact hn (hv k e.symm)
theorem SideP.newB {vb' : Value} {l : List S87} {x' : HV} (H : SideP w0 w p m x l1 l2 vf vb vq ve f n) (HR : HRows w w0.heap.size (fun _ => True) o x vf vb vq ve) (hb : Below w.heap.size w we)
  (hT : Tch we w3 (fun k => k = p ∨ some k = vb.ownBlock)) (hx : w3.heap[p]? = some (.cells (sideP x' m l1 l2 vf vb' vq ve) 128 (0,0))) (he : x' = { x with bs:=l })
  (hS : Kd.S k87 87 w3 w0.heap.size (fun k => (o k = 1 ∧ k < w.heap.size) ∨ w.heap.size ≤ k) vb' l) : SideP w0 w3 p m x' l1 l2 vf vb' vq ve f n:=by
 subst he
 have hpm:=H.pm
 have HR1:=(reown HR 1).below hb
 have H':=H.below hb
 have hown : ∀ k,vb.ownBlock = some k → k < w.heap.size ∧ o k = 1:=fun k hk => ⟨Kd.S_lt HR.b k hk,(S_own_ok HR.b hk).2⟩
 have hw : ∀ k,(k = p ∨ some k = vb.ownBlock) → w0.heap.size ≤ k:=by
  rintro k (e | e)
  ·rw [e];exact H.hp
  ·exact Kd.S_base HR.b k e.symm
 have hnm : ¬ (m = p ∨ some m = vb.ownBlock):=by
  rintro (e | e)
  ·exact hpm e.symm
  ·obtain ⟨cs,hc⟩:=Kd.S_typed HR.b m e.symm
   obtain ⟨es,cl,hb,_⟩:=H.map
   rw [hb] at hc
   cases hc
 obtain ⟨o',ho',HR2⟩:=HRows.newB (w1:=w3) (vb':=vb') (l:=l) HR1.bound (keep_of hT HR1 H'.blk (i:=1) (fun k hk => by show (if k < w.heap.size then o k else 1) = 1;rw [if_pos (hown k hk).1];exact (hown k hk).2))
  (Kd.S_mono (Kd.S_bound hS) (fun k hk => by
   by_cases c : k < we.heap.size
   ·left
    have hne : k ≠ p ∨ k = p:=by omega
    refine ⟨⟨trivial, ?_⟩, ?_⟩
    ·obtain ⟨h1,h2,h3,q,hq,cs,hc⟩:=hk
     have hq : q ∈ [87,5]:=hq
     by_cases e : k = p ∨ some k = vb.ownBlock
     ·rcases e with e | e
      ·subst e
       rw [hx] at hc
       injection hc with hc
       injection hc with _ hc _
       subst hc
       simp at hq
      ·obtain ⟨cs',hc'⟩:=Kd.S_typed HR1.b k e.symm
       exact ⟨h2,c,_, .inr (.inl rfl),cs',hc'⟩
     ·refine ⟨h2,c,q, ?_,cs,by rw [← hT.block c e];exact hc⟩
      rcases List.mem_cons.1 hq with e1 | e1
      ·exact .inr (.inl e1)
      ·exact .inr (.inr (.inr (.inr (List.mem_singleton.1 e1))))
    ·show (if k < w.heap.size then o k else 1) = 1
     rcases hk.1 with h | h
     ·rw [if_pos h.2];exact h.1
     ·rw [if_neg (by omega)]
   ·exact .inr (by omega)))
 exact ⟨hT.below (below_then H.bel H.bel.size hb) (Nat.le_trans H.bel.size hb.size) hw,hx,(H.map.below hb).tch hT hnm,⟨o',HR2.mono (fun _ _ => trivial)⟩,H.hp,H.hm⟩
theorem SideP.newQ {vq' : Value} {l : List S45} {x' : HV} (H : SideP w0 w p m x l1 l2 vf vb vq ve f n) (HR : HRows w w0.heap.size (fun _ => True) o x vf vb vq ve) (hb : Below w.heap.size w we)
  (hT : Tch we w3 (fun k => k = p ∨ some k = vq.ownBlock)) (hx : w3.heap[p]? = some (.cells (sideP x' m l1 l2 vf vb vq' ve) 128 (0,0))) (he : x' = { x with fr:=l })
  (hS : Kd.S k45 45 w3 w0.heap.size (fun k => (o k = 2 ∧ k < w.heap.size) ∨ w.heap.size ≤ k) vq' l) : SideP w0 w3 p m x' l1 l2 vf vb vq' ve f n:=by
 subst he
 have hpm:=H.pm
 have HR1:=(reown HR 2).below hb
 have H':=H.below hb
 have hown : ∀ k,vq.ownBlock = some k → k < w.heap.size ∧ o k = 2:=fun k hk => ⟨Kd.S_lt HR.q k hk,(S_own_ok HR.q hk).2⟩
 have hw : ∀ k,(k = p ∨ some k = vq.ownBlock) → w0.heap.size ≤ k:=by
  rintro k (e | e)
  ·rw [e];exact H.hp
  ·exact Kd.S_base HR.q k e.symm
 have hnm : ¬ (m = p ∨ some m = vq.ownBlock):=by
  rintro (e | e)
  ·exact hpm e.symm
  ·obtain ⟨cs,hc⟩:=Kd.S_typed HR.q m e.symm
   obtain ⟨es,cl,hb,_⟩:=H.map
   rw [hb] at hc
   cases hc
 obtain ⟨o',ho',HR2⟩:=HRows.newQ (w1:=w3) (vq':=vq') (l:=l) HR1.bound (keep_of hT HR1 H'.blk (i:=2) (fun k hk => by show (if k < w.heap.size then o k else 2) = 2;rw [if_pos (hown k hk).1];exact (hown k hk).2))
  (Kd.S_mono (Kd.S_bound hS) (fun k hk => by
   by_cases c : k < we.heap.size
   ·left
    have hne : k ≠ p ∨ k = p:=by omega
    refine ⟨⟨trivial, ?_⟩, ?_⟩
    ·obtain ⟨h1,h2,h3,q,hq,cs,hc⟩:=hk
     have hq : q ∈ [45,5]:=hq
     by_cases e : k = p ∨ some k = vq.ownBlock
     ·rcases e with e | e
      ·subst e
       rw [hx] at hc
       injection hc with hc
       injection hc with _ hc _
       subst hc
       simp at hq
      ·obtain ⟨cs',hc'⟩:=Kd.S_typed HR1.q k e.symm
       exact ⟨h2,c,_, .inr (.inr (.inl rfl)),cs',hc'⟩
     ·refine ⟨h2,c,q, ?_,cs,by rw [← hT.block c e];exact hc⟩
      rcases List.mem_cons.1 hq with e1 | e1
      ·exact .inr (.inr (.inl e1))
      ·exact .inr (.inr (.inr (.inr (List.mem_singleton.1 e1))))
    ·show (if k < w.heap.size then o k else 2) = 2
     rcases hk.1 with h | h
     ·rw [if_pos h.2];exact h.1
     ·rw [if_neg (by omega)]
   ·exact .inr (by omega)))
 exact ⟨hT.below (below_then H.bel H.bel.size hb) (Nat.le_trans H.bel.size hb.size) hw,hx,(H.map.below hb).tch hT hnm,⟨o',HR2.mono (fun _ _ => trivial)⟩,H.hp,H.hm⟩
theorem SideP.newE {ve' : Value} {l : List S56} {x' : HV} (H : SideP w0 w p m x l1 l2 vf vb vq ve f n) (HR : HRows w w0.heap.size (fun _ => True) o x vf vb vq ve) (hb : Below w.heap.size w we)
  (hT : Tch we w3 (fun k => k = p ∨ some k = ve.ownBlock)) (hx : w3.heap[p]? = some (.cells (sideP x' m l1 l2 vf vb vq ve') 128 (0,0))) (he : x' = { x with ev:=l })
  (hS : Kd.S k56 56 w3 w0.heap.size (fun k => (o k = 3 ∧ k < w.heap.size) ∨ w.heap.size ≤ k) ve' l) : SideP w0 w3 p m x' l1 l2 vf vb vq ve' f n:=by
 subst he
 have hpm:=H.pm
 have HR1:=(reown HR 3).below hb
 have H':=H.below hb
 have hown : ∀ k,ve.ownBlock = some k → k < w.heap.size ∧ o k = 3:=fun k hk => ⟨Kd.S_lt HR.e k hk,(S_own_ok HR.e hk).2⟩
 have hw : ∀ k,(k = p ∨ some k = ve.ownBlock) → w0.heap.size ≤ k:=by
  rintro k (e | e)
  ·rw [e];exact H.hp
  ·exact Kd.S_base HR.e k e.symm
 have hnm : ¬ (m = p ∨ some m = ve.ownBlock):=by
  rintro (e | e)
  ·exact hpm e.symm
  ·obtain ⟨cs,hc⟩:=Kd.S_typed HR.e m e.symm
   obtain ⟨es,cl,hb,_⟩:=H.map
   rw [hb] at hc
   cases hc
 obtain ⟨o',ho',HR2⟩:=HRows.newE (w1:=w3) (ve':=ve') (l:=l) HR1.bound (keep_of hT HR1 H'.blk (i:=3) (fun k hk => by show (if k < w.heap.size then o k else 3) = 3;rw [if_pos (hown k hk).1];exact (hown k hk).2))
  (Kd.S_mono (Kd.S_bound hS) (fun k hk => by
   by_cases c : k < we.heap.size
   ·left
    have hne : k ≠ p ∨ k = p:=by omega
    refine ⟨⟨trivial, ?_⟩, ?_⟩
    ·obtain ⟨h1,h2,h3,q,hq,cs,hc⟩:=hk
     have hq : q ∈ [56,5]:=hq
     by_cases e : k = p ∨ some k = ve.ownBlock
     ·rcases e with e | e
      ·subst e
       rw [hx] at hc
       injection hc with hc
       injection hc with _ hc _
       subst hc
       simp at hq
      ·obtain ⟨cs',hc'⟩:=Kd.S_typed HR1.e k e.symm
       exact ⟨h2,c,_, .inr (.inr (.inr (.inl rfl))),cs',hc'⟩
     ·refine ⟨h2,c,q, ?_,cs,by rw [← hT.block c e];exact hc⟩
      rcases List.mem_cons.1 hq with e1 | e1
      ·exact .inr (.inr (.inr (.inl e1)))
      ·exact .inr (.inr (.inr (.inr (List.mem_singleton.1 e1))))
    ·show (if k < w.heap.size then o k else 3) = 3
     rcases hk.1 with h | h
     ·rw [if_pos h.2];exact h.1
     ·rw [if_neg (by omega)]
   ·exact .inr (by omega)))
 exact ⟨hT.below (below_then H.bel H.bel.size hb) (Nat.le_trans H.bel.size hb.size) hw,hx,(H.map.below hb).tch hT hnm,⟨o',HR2.mono (fun _ _ => trivial)⟩,H.hp,H.hm⟩
theorem SideP.newF {vf' : Value} {l : List S89} {x' : HV} (H : SideP w0 w p m x l1 l2 vf vb vq ve f n) (hb : Below w.heap.size w we) (hT : Tch we w3 (fun k => k = p))
  (hx : w3.heap[p]? = some (.cells (sideP x' m l1 l2 vf' vb vq ve) 128 (0,0))) (he : x' = { x with fs:=l }) (hR : (k89).R 89 we w0.heap.size (fun k => w.heap.size ≤ k) vf' l) : SideP w0 w3 p m x' l1 l2 vf' vb vq ve f n:=by
 subst he
 have hpm:=H.pm
 have hpl:=blk_lt H.blk
 have H':=H.below hb
 obtain ⟨o,HR⟩:=H.rows
 have hR3:=Kd.R_step (w1:=w3) hR (fun k hk hl => hT.block hl (by omega))
 obtain ⟨o',ho',HR2⟩:=HRows.newF (w1:=w3) (vf':=vf') (l:=l) HR.bound (fun k hk hn hl => by rw [hT.block (Nat.lt_of_lt_of_le hl hb.size) (side_other H.blk hk.2),hb.block k hl]) (Kd.R_mono hR3 (fun k hk => .inr hk))
 exact ⟨hT.below H'.bel H'.bel.size (fun k hk => hk ▸ H.hp),hx,H'.map.tch hT (fun e => hpm e.symm),⟨o',HR2.mono (fun _ _ => trivial)⟩,H.hp,H.hm⟩
theorem below_grown {row : Option Nat} (hg : w.grownBy we row) (hn : ∀ k,row = some k → w.heap.size ≤ k) : Below w.heap.size w we :=
 ⟨hg.os,hg.tape,hg.output,hg.size,fun k hk => hg.block k hk (fun e => by have:=hn k e.symm;omega)⟩
end
structure HostP (w0 w : World) (p : Nat) (x : HV) (vf vb vq ve : Value) : Prop where
 bel : Below w0.heap.size w0 w
 blk : w.heap[p]? = some (.cells ⟨hostC x vf vb vq ve⟩ 32 (0,0))
 rows : ∃ o,HRows w w0.heap.size (fun _ => True) o x vf vb vq ve
 hp : w0.heap.size ≤ p
section
variable {w0 w we w1 w3 : World} {p : Nat} {x : HV} {vf vb vq ve : Value} {o : Nat → Nat}
theorem HostP.below (H : HostP w0 w p x vf vb vq ve) (hb : Below w.heap.size w we) : HostP w0 we p x vf vb vq ve:=by
 obtain ⟨h1,h2,⟨o,h4⟩,h5⟩:=H
 exact ⟨below_then h1 h1.size hb,blk_below h2 hb,⟨o,h4.below hb⟩,h5⟩
theorem host_other {cells : Array Value} (hb : w.heap[p]? = some (.cells cells 32 (0,0))) {k : Nat} (hk : Mine w w0.heap.size k) : k ≠ p:=hk.ne hb (by decide)
theorem keep_host {v : Value} (hT : Tch we w3 (fun k => k = p ∨ some k = v.ownBlock)) (H : HRows we w0.heap.size (fun _ => True) o x vf vb vq ve) {cells : Array Value} (hb : we.heap[p]? = some (.cells cells 32 (0,0))) {i : Nat} (hv : ∀ k,v.ownBlock = some k → o k = i) :
  ∀ k,(True ∧ Mine we w0.heap.size k) → o k ≠ i → k < we.heap.size → w3.heap[k]? = we.heap[k]?:=by
 intro k hk hn hl
 refine hT.block hl ?_
 rintro (e | e)
 ·exact host_other hb hk.2 e
 ·exact hn (hv k e.symm)
theorem HostP.newB {vb' : Value} {l : List S87} {x' : HV} (H : HostP w0 w p x vf vb vq ve) (HR : HRows w w0.heap.size (fun _ => True) o x vf vb vq ve) (hb : Below w.heap.size w we)
  (hT : Tch we w3 (fun k => k = p ∨ some k = vb.ownBlock)) (hx : w3.heap[p]? = some (.cells ⟨hostC x' vf vb' vq ve⟩ 32 (0,0))) (he : x' = { x with bs:=l })
  (hS : Kd.S k87 87 w3 w0.heap.size (fun k => (o k = 1 ∧ k < w.heap.size) ∨ w.heap.size ≤ k) vb' l) : HostP w0 w3 p x' vf vb' vq ve:=by
 subst he
 have HR1:=(reown HR 1).below hb
 have H':=H.below hb
 have hown : ∀ k,vb.ownBlock = some k → k < w.heap.size ∧ o k = 1:=fun k hk => ⟨Kd.S_lt HR.b k hk,(S_own_ok HR.b hk).2⟩
 have hw : ∀ k,(k = p ∨ some k = vb.ownBlock) → w0.heap.size ≤ k:=by
  rintro k (e | e)
  ·rw [e];exact H.hp
  ·exact Kd.S_base HR.b k e.symm
 obtain ⟨o',ho',HR2⟩:=HRows.newB (w1:=w3) (vb':=vb') (l:=l) HR1.bound (keep_host hT HR1 H'.blk (i:=1) (fun k hk => by show (if k < w.heap.size then o k else 1) = 1;rw [if_pos (hown k hk).1];exact (hown k hk).2))
  (Kd.S_mono (Kd.S_bound hS) (fun k hk => by
   by_cases c : k < we.heap.size
   ·left
    refine ⟨⟨trivial, ?_⟩, ?_⟩
    ·obtain ⟨h1,h2,h3,q,hq,cs,hc⟩:=hk
     have hq : q ∈ [87,5]:=hq
     by_cases e : k = p ∨ some k = vb.ownBlock
     ·rcases e with e | e
      ·subst e
       rw [hx] at hc
       injection hc with hc
       injection hc with _ hc _
       subst hc
       simp at hq
      ·obtain ⟨cs',hc'⟩:=Kd.S_typed HR1.b k e.symm
       exact ⟨h2,c,_, .inr (.inl rfl),cs',hc'⟩
     ·refine ⟨h2,c,q, ?_,cs,by rw [← hT.block c e];exact hc⟩
      rcases List.mem_cons.1 hq with e1 | e1
      ·exact .inr (.inl e1)
      ·exact .inr (.inr (.inr (.inr (List.mem_singleton.1 e1))))
    ·show (if k < w.heap.size then o k else 1) = 1
     rcases hk.1 with h | h
     ·rw [if_pos h.2];exact h.1
     ·rw [if_neg (by omega)]
   ·exact .inr (by omega)))
 exact ⟨hT.below (below_then H.bel H.bel.size hb) (Nat.le_trans H.bel.size hb.size) hw,hx,⟨o',HR2.mono (fun _ _ => trivial)⟩,H.hp⟩
theorem HostP.newQ {vq' : Value} {l : List S45} {x' : HV} (H : HostP w0 w p x vf vb vq ve) (HR : HRows w w0.heap.size (fun _ => True) o x vf vb vq ve) (hb : Below w.heap.size w we)
  (hT : Tch we w3 (fun k => k = p ∨ some k = vq.ownBlock)) (hx : w3.heap[p]? = some (.cells ⟨hostC x' vf vb vq' ve⟩ 32 (0,0))) (he : x' = { x with fr:=l })
  (hS : Kd.S k45 45 w3 w0.heap.size (fun k => (o k = 2 ∧ k < w.heap.size) ∨ w.heap.size ≤ k) vq' l) : HostP w0 w3 p x' vf vb vq' ve:=by
 subst he
 have HR1:=(reown HR 2).below hb
 have H':=H.below hb
 have hown : ∀ k,vq.ownBlock = some k → k < w.heap.size ∧ o k = 2:=fun k hk => ⟨Kd.S_lt HR.q k hk,(S_own_ok HR.q hk).2⟩
 have hw : ∀ k,(k = p ∨ some k = vq.ownBlock) → w0.heap.size ≤ k:=by
  rintro k (e | e)
  ·rw [e];exact H.hp
  ·exact Kd.S_base HR.q k e.symm
 obtain ⟨o',ho',HR2⟩:=HRows.newQ (w1:=w3) (vq':=vq') (l:=l) HR1.bound (keep_host hT HR1 H'.blk (i:=2) (fun k hk => by show (if k < w.heap.size then o k else 2) = 2;rw [if_pos (hown k hk).1];exact (hown k hk).2))
  (Kd.S_mono (Kd.S_bound hS) (fun k hk => by
   by_cases c : k < we.heap.size
   ·left
    refine ⟨⟨trivial, ?_⟩, ?_⟩
    ·obtain ⟨h1,h2,h3,q,hq,cs,hc⟩:=hk
     have hq : q ∈ [45,5]:=hq
     by_cases e : k = p ∨ some k = vq.ownBlock
     ·rcases e with e | e
      ·subst e
       rw [hx] at hc
       injection hc with hc
       injection hc with _ hc _
       subst hc
       simp at hq
      ·obtain ⟨cs',hc'⟩:=Kd.S_typed HR1.q k e.symm
       exact ⟨h2,c,_, .inr (.inr (.inl rfl)),cs',hc'⟩
     ·refine ⟨h2,c,q, ?_,cs,by rw [← hT.block c e];exact hc⟩
      rcases List.mem_cons.1 hq with e1 | e1
      ·exact .inr (.inr (.inl e1))
      ·exact .inr (.inr (.inr (.inr (List.mem_singleton.1 e1))))
    ·show (if k < w.heap.size then o k else 2) = 2
     rcases hk.1 with h | h
     ·rw [if_pos h.2];exact h.1
     ·rw [if_neg (by omega)]
   ·exact .inr (by omega)))
 exact ⟨hT.below (below_then H.bel H.bel.size hb) (Nat.le_trans H.bel.size hb.size) hw,hx,⟨o',HR2.mono (fun _ _ => trivial)⟩,H.hp⟩
theorem HostP.newE {ve' : Value} {l : List S56} {x' : HV} (H : HostP w0 w p x vf vb vq ve) (HR : HRows w w0.heap.size (fun _ => True) o x vf vb vq ve) (hb : Below w.heap.size w we)
  (hT : Tch we w3 (fun k => k = p ∨ some k = ve.ownBlock)) (hx : w3.heap[p]? = some (.cells ⟨hostC x' vf vb vq ve'⟩ 32 (0,0))) (he : x' = { x with ev:=l })
  (hS : Kd.S k56 56 w3 w0.heap.size (fun k => (o k = 3 ∧ k < w.heap.size) ∨ w.heap.size ≤ k) ve' l) : HostP w0 w3 p x' vf vb vq ve':=by
 subst he
 have HR1:=(reown HR 3).below hb
 have H':=H.below hb
 have hown : ∀ k,ve.ownBlock = some k → k < w.heap.size ∧ o k = 3:=fun k hk => ⟨Kd.S_lt HR.e k hk,(S_own_ok HR.e hk).2⟩
 have hw : ∀ k,(k = p ∨ some k = ve.ownBlock) → w0.heap.size ≤ k:=by
  rintro k (e | e)
  ·rw [e];exact H.hp
  ·exact Kd.S_base HR.e k e.symm
 obtain ⟨o',ho',HR2⟩:=HRows.newE (w1:=w3) (ve':=ve') (l:=l) HR1.bound (keep_host hT HR1 H'.blk (i:=3) (fun k hk => by show (if k < w.heap.size then o k else 3) = 3;rw [if_pos (hown k hk).1];exact (hown k hk).2))
  (Kd.S_mono (Kd.S_bound hS) (fun k hk => by
   by_cases c : k < we.heap.size
   ·left
    refine ⟨⟨trivial, ?_⟩, ?_⟩
    ·obtain ⟨h1,h2,h3,q,hq,cs,hc⟩:=hk
     have hq : q ∈ [56,5]:=hq
     by_cases e : k = p ∨ some k = ve.ownBlock
     ·rcases e with e | e
      ·subst e
       rw [hx] at hc
       injection hc with hc
       injection hc with _ hc _
       subst hc
       simp at hq
      ·obtain ⟨cs',hc'⟩:=Kd.S_typed HR1.e k e.symm
       exact ⟨h2,c,_, .inr (.inr (.inr (.inl rfl))),cs',hc'⟩
     ·refine ⟨h2,c,q, ?_,cs,by rw [← hT.block c e];exact hc⟩
      rcases List.mem_cons.1 hq with e1 | e1
      ·exact .inr (.inr (.inr (.inl e1)))
      ·exact .inr (.inr (.inr (.inr (List.mem_singleton.1 e1))))
    ·show (if k < w.heap.size then o k else 3) = 3
     rcases hk.1 with h | h
     ·rw [if_pos h.2];exact h.1
     ·rw [if_neg (by omega)]
   ·exact .inr (by omega)))
 exact ⟨hT.below (below_then H.bel H.bel.size hb) (Nat.le_trans H.bel.size hb.size) hw,hx,⟨o',HR2.mono (fun _ _ => trivial)⟩,H.hp⟩
end
end Go.Proofs.Ytcaefabbcjlkdaa.P
namespace Go.Proofs.Ytcaefabbcjlkdaa.P
open Go Go.RowKit Go.Proofs.YtcaefabbcjlkdaaW.PrintWords Go.Proofs.YtcaefabbcjlkdaaW.PrintLast
set_option linter.unusedVariables false
section
variable {P : Program} {ops : Array Oper} {oi : Oper} {a : Act} {W : World} {K : Act → World → Prop} {Q : Exit → Act → World → Prop}
theorem st_blk (hw : Region.wanted oi (yielded ops a.tmps) = true) (hN : oi.dst = none) {t : TypeId} {p : Operand} {v : Operand} (ho : oi.op = .store t p v) {g j : Nat} {cs cs' : Array Value} {T : TypeId} {u : Value} {seg : List Value}
  (hp : a.eval p = .pointer (some ⟨g,j,none⟩)) (hv : a.eval v = u) (hb : W.heap[g]? = some (.cells cs T (0,0))) (hu : u.cells.toList = seg) (ht : (P.info? t).map (·.size) = some seg.length) (h1 : seg.all (·.oneCell') = true) (hj' : Nat.ble (j + seg.length) cs.size = true)
  (hcs : (cs.toList.take j ++ seg ++ cs.toList.drop (j + seg.length)).toArray = cs') (h : ∀ w',w'.heap[g]? = some (.cells cs' T (0,0)) → Tch W w' (fun k => k = g) → K a w') :
  if Region.wanted oi (yielded ops a.tmps) = true then Oper.wp P oi a W K Q else K (a.put none undef) W:=by
 have hj : j + seg.length ≤ cs.size:=Nat.le_of_ble_eq_true hj'
 have hrun:=run_store_run (P:=P) (o:=j) t u seg hb hu ht hj (List.all_eq_true.1 h1)
 refine skip_ hw hN ?_ (h _ ?_ (tch_setCells W g seg j))
 ·unfold execOp
  simp only [ho,hp,hv,Sem.run_bind,Sem.run_pure,Result.andThen_ok,hrun]
 ·rw [setCells_obj seg j W cs hb hj,hcs]
theorem put_one (cs : Array Value) (j : Nat) (u : Value) (hj : j < cs.size) : (cs.toList.take j ++ [u] ++ cs.toList.drop (j + [u].length)).toArray = cs.setIfInBounds j u:=by
 have hl : cs.toList.length = cs.size:=Array.length_toList
 apply Array.ext'
 rw [Array.toList_setIfInBounds,List.append_assoc,List.singleton_append,List.length_singleton,List.set_eq_take_append_cons_drop,if_pos (by omega)]
theorem st_one (hw : Region.wanted oi (yielded ops a.tmps) = true) (hN : oi.dst = none) {t : TypeId} {p : Operand} {v : Operand} (ho : oi.op = .store t p v) {g j : Nat} {cs : Array Value} {T : TypeId} {u u0 : Value}
  (hp : a.eval p = .pointer (some ⟨g,j,none⟩)) (hv : a.eval v = u) (hb : W.heap[g]? = some (.cells cs T (0,0))) (hu : u.cells.toList = [u]) (ht : (P.info? t).map (·.size) = some 1) (h1 : u.oneCell' = true) (hj : cs[j]? = some u0)
  (h : ∀ w',w'.heap[g]? = some (.cells (cs.setIfInBounds j u) T (0,0)) → Tch W w' (fun k => k = g) → K a w') :
  if Region.wanted oi (yielded ops a.tmps) = true then Oper.wp P oi a W K Q else K (a.put none undef) W:=by
 have hlt : j < cs.size:=(Array.getElem?_eq_some_iff.1 hj).1
 exact st_blk hw hN ho (seg := [u]) hp hv hb hu ht (by simp [h1]) (Nat.ble_eq_true_of_le hlt) (put_one cs j u hlt) h
theorem box_step {N : Option Tmp} (hw : Region.wanted oi (yielded ops a.tmps) = true) (hN : oi.dst = N) {cs : Array Value} {t : TypeId}
  (hrun : (execOp a.eval oi).run P W = .ok (.value (.pointer (some ⟨W.heap.size,0,none⟩))) (W.alloc (.cells cs t (0,0))))
  (h : ∀ g,g = W.heap.size → ∀ w1,w1.heap[g]? = some (.cells cs t (0,0)) → Below W.heap.size W w1 → K (a.put N (.pointer (some ⟨g,0,none⟩))) w1) :
  if Region.wanted oi (yielded ops a.tmps) = true then Oper.wp P oi a W K Q else K (a.put N undef) W :=
 value_ hw hN hrun (h _ rfl _ (blk_new W _) (below_alloc (Below.refl _ _) _))
end
end Go.Proofs.Ytcaefabbcjlkdaa.P
namespace Go.Proofs.Ytcaefabbcjlkdaa.P
open Go Go.RowKit Go.Proofs.YtcaefabbcjlkdaaW.PrintWords Go.Proofs.YtcaefabbcjlkdaaW.PrintLast Go.Proofs.YtcaefabbcjlkdaaW.PrintMore
set_option linter.unusedVariables false
set_option linter.unusedSimpArgs false
set_option maxRecDepth 100000 in
set_option maxHeartbeats 4000000 in
theorem pushE_v (w0 w : World) (p j : Nat) (cs : Array Value) (T : TypeId) (lim : Int) (v : Value) (l : List S56) (x : S56) (C : List Value) (okv okx : Nat → Prop)
  (hB : Below w0.heap.size w0 w) (hp : w.heap[p]? = some (.cells cs T (0,0))) (hpB : w0.heap.size ≤ p) (hT : T ≠ 56 ∧ T ≠ 5) (h0 : cs[j]? = some (.int .i64 lim)) (h1 : cs[j + 1]? = some v) (hl : 0 ≤ lim ∧ lim ≤ 100000) (hln : l.length ≤ 100000)
  (HS : Kd.S k56 56 w w0.heap.size okv v l) (HX : k56.M w w0.heap.size okx x C) (hd : ∀ k,okx k → ¬ okv k) :
  Calls Try.prog 140 #[.pointer (some ⟨p,j,none⟩), .agg ⟨C⟩] w fun e w' =>
   ((l.length : Int) < lim → e = .returned (.bool true) ∧ ∃ v',w'.heap[p]? = some (.cells (cs.setIfInBounds (j + 1) v') T (0,0)) ∧ Kd.S k56 56 w' w0.heap.size (fun k => okv k ∨ okx k ∨ w.heap.size ≤ k) v' (l ++ [x]) ∧ Tch w w' (fun k => k = p ∨ some k = v.ownBlock)) ∧
   (lim ≤ (l.length : Int) → e = .returned (.bool false) ∧ Below w.heap.size w w'):=by
 obtain ⟨A,c,rfl⟩:=Kd.S_slice HS
 have HLN:=Lib.hid hln
 clear hln
 obtain ⟨v7,rfl,g7⟩:=k56_openM HX
 obtain ⟨A7,c7,rfl⟩:=Kd.R_slice g7
 clear g7
 have HP:=Lib.hid hp
 have HI : Hid ((Try.prog.info? 56).map (·.size) = some 8):=Lib.hid (by kernel_rfl)
 have hu:=Lib.hid Try.underlying56
 have H0:=Lib.hid h0
 have H1:=Lib.hid h1
 have HSS:=Lib.hid HS
 have HXX:=Lib.hid HX
 have HL:=Lib.hid hl
 have HB:=Lib.hid hB
 have HPB:=Lib.hid hpB
 have HTT:=Lib.hid hT
 have HD:=Lib.hid hd
 clear hp h0 h1 HS HX hl hB hpB hT hd
 go_enter Try.func140,Try.ntmps140
 go_upto_region 1 with (first | ((with_reducible refine gate_dst (N:=3) rfl ?_);refine box_event ?hg (N:=3) ?hd (cs:=⟨[.int .i64 x.f0, .int .i64 x.f1, .int .i64 x.f2, .bool x.f3.f0, .int .u32 x.f3.f1, .bool x.f3.f2, .int .i64 x.f3.f3, .slice A7 x.f3.f4.length c7]⟩) (t:=56) ?hr ?_;(case hd => rfl);(case hg => rfl);(case hr => first | (go_simp;done) | (go_simp;rfl));intro g hg w1 hbox hb;have HG:=Lib.hid hg;have HX1:=Lib.hid hbox;have HB1:=Lib.hid hb;clear hg hbox hb))
 have HP1:=Lib.hid (blk_below HP.out HB1.out)
 obtain ⟨wd,hwd⟩ : ∃ wd,wd = w1.drew:=⟨_,rfl⟩
 have HPd : Hid (wd.heap[p]? = some (.cells cs T (0,0))):=by rw [hwd];exact Lib.hid (blk_drew HP1.out)
 have HGd : Hid (wd.heap[g]? = some (.cells ⟨[.int .i64 x.f0, .int .i64 x.f1, .int .i64 x.f2, .bool x.f3.f0, .int .u32 x.f3.f1, .bool x.f3.f2, .int .i64 x.f3.f3, .slice A7 x.f3.f4.length c7]⟩ 56 (0,0))):=by rw [hwd];exact Lib.hid (blk_drew HX1.out)
 have HTd : Hid (Below w.heap.size w wd):=by rw [hwd];exact Lib.hid (below_drew HB1.out)
 refine start_ (n:=12) (S:=fun w' : World => w'.heap[p]? = some (.cells cs T (0,0))) (ds := []) #[false,false,false,false,false,false,false,false,false,false,false,false] (by kernel_rfl) rfl rfl (hwd ▸ HPd.out) (fun hHeld => ?_)
 rw [← hwd] at hHeld ⊢
 clear hwd
 refine pure_ (i:=0) (N:=some 5) (v := ?_) (a' := ?_) #[true,false,false,false,false,false,false,false,false,false,false,false] rfl rfl (by kernel_rfl) (fun _ _ _ h => h) (Or.inl ⟨by rfl, ?_⟩) ?_ ?_
 rotate_left
 ·intro w'
  go_simp
  with_reducible rfl
 rotate_left
 ·simp only [Act.put,List.setIfInBounds_toArray,List.set_cons_zero,List.set_cons_succ,i64_w,i32_w]
  rfl
 refine pure_ (i:=1) (N:=some 6) (v := ?_) (a' := ?_) #[true,true,false,false,false,false,false,false,false,false,false,false] rfl rfl (by kernel_rfl) (fun _ _ _ h => h) (Or.inl ⟨by rfl, ?_⟩) ?_ ?_
 rotate_left
 ·intro w'
  go_simp
  with_reducible rfl
 rotate_left
 ·simp only [Act.put,List.setIfInBounds_toArray,List.set_cons_zero,List.set_cons_succ,i64_w,i32_w]
  rfl
 refine pure_ (i:=2) (N:=some 7) (v := ?_) (a' := ?_) #[true,true,true,false,false,false,false,false,false,false,false,false] rfl rfl (by kernel_rfl) (fun _ _ _ h => h) (Or.inl ⟨by rfl, ?_⟩) ?_ ?_
 rotate_left
 ·intro w'
  go_simp
  with_reducible rfl
 rotate_left
 ·simp only [Act.put,List.setIfInBounds_toArray,List.set_cons_zero,List.set_cons_succ,i64_w,i32_w]
  rfl
 refine take_ (i:=3) (N:=some 8) (v := ?_) (a' := ?_) #[true,true,true,true,false,false,false,false,false,false,false,false] rfl rfl (by kernel_rfl) (fun _ _ _ h => h) (Or.inl ⟨by rfl, ?_⟩) hHeld ?_ ?_
 rotate_left
 ·intro w' s0
  have e0 : w'.cell? ⟨p,j,none⟩ = some (.int .i64 lim):=(blk_cell s0 j).trans H0.out
  go_simp
  with_reducible rfl
 rotate_left
 ·simp only [Act.put,List.setIfInBounds_toArray,List.set_cons_zero,List.set_cons_succ,i64_w,i32_w]
  rfl
 refine pure_ (i:=4) (N:=some 9) (v := ?_) (a' := ?_) #[true,true,true,true,true,false,false,false,false,false,false,false] rfl rfl (by kernel_rfl) (fun _ _ _ h => h) (Or.inl ⟨by rfl, ?_⟩) ?_ ?_
 rotate_left
 ·intro w'
  go_simp
  with_reducible rfl
 rotate_left
 ·simp only [Act.put,List.setIfInBounds_toArray,List.set_cons_zero,List.set_cons_succ,i64_w,i32_w]
  rfl
 refine pure_ (i:=5) (N:=some 10) (v := ?_) (a' := ?_) #[true,true,true,true,true,true,false,false,false,false,false,false] rfl rfl (by kernel_rfl) (fun _ _ _ h => h) (Or.inl ⟨by rfl, ?_⟩) ?_ ?_
 rotate_left
 ·intro w'
  go_simp
  with_reducible rfl
 rotate_left
 ·simp only [Act.put,List.setIfInBounds_toArray,List.set_cons_zero,List.set_cons_succ,i64_w,i32_w]
  rfl
 refine pure_ (i:=6) (N:=some 11) (v := ?_) (a' := ?_) #[true,true,true,true,true,true,true,false,false,false,false,false] rfl rfl (by kernel_rfl) (fun _ _ _ h => h) (Or.inl ⟨by rfl, ?_⟩) ?_ ?_
 rotate_left
 ·intro w'
  go_simp
  with_reducible rfl
 rotate_left
 ·simp only [Act.put,List.setIfInBounds_toArray,List.set_cons_zero,List.set_cons_succ,i64_w,i32_w]
  rfl
 refine take_ (i:=7) (N:=some 12) (v := ?_) (a' := ?_) #[true,true,true,true,true,true,true,true,false,false,false,false] rfl rfl (by kernel_rfl) (fun _ _ _ h => h) (Or.inl ⟨by rfl, ?_⟩) hHeld ?_ ?_
 rotate_left
 ·intro w' s0
  have e0 : w'.cell? ⟨p,j + 1,none⟩ = some (.slice A l.length c):=(blk_cell s0 (j + 1)).trans H1.out
  go_simp
  with_reducible rfl
 rotate_left
 ·simp only [Act.put,List.setIfInBounds_toArray,List.set_cons_zero,List.set_cons_succ,i64_w,i32_w]
  rfl
 refine pure_ (i:=8) (N:=some 13) (v := ?_) (a' := ?_) #[true,true,true,true,true,true,true,true,true,false,false,false] rfl rfl (by kernel_rfl) (fun _ _ _ h => h) (Or.inl ⟨by rfl, ?_⟩) ?_ ?_
 rotate_left
 ·intro w'
  go_simp
  with_reducible rfl
 rotate_left
 ·simp only [Act.put,List.setIfInBounds_toArray,List.set_cons_zero,List.set_cons_succ,i64_w,i32_w]
  rfl
 refine pure_ (i:=9) (N:=some 14) (v := ?_) (a' := ?_) #[true,true,true,true,true,true,true,true,true,true,false,false] rfl rfl (by kernel_rfl) (fun _ _ _ h => h) (Or.inl ⟨by rfl, ?_⟩) ?_ ?_
 rotate_left
 ·intro w'
  go_simp
  with_reducible rfl
 rotate_left
 ·simp only [Act.put,List.setIfInBounds_toArray,List.set_cons_zero,List.set_cons_succ,i64_w,i32_w]
  rfl
 refine pure_ (i:=10) (N:=some 15) (v := ?_) (a' := ?_) #[true,true,true,true,true,true,true,true,true,true,true,false] rfl rfl (by kernel_rfl) (fun _ _ _ h => h) (Or.inl ⟨by rfl, ?_⟩) ?_ ?_
 rotate_left
 ·intro w'
  go_simp
  with_reducible rfl
 rotate_left
 ·simp only [Act.put,List.setIfInBounds_toArray,List.set_cons_zero,List.set_cons_succ,i64_w,i32_w]
  rfl
 refine pure_ (i:=11) (N:=some 16) (v := ?_) (a' := ?_) #[true,true,true,true,true,true,true,true,true,true,true,true] rfl rfl (by kernel_rfl) (fun _ _ _ h => h) (Or.inl ⟨by rfl, ?_⟩) ?_ ?_
 rotate_left
 ·intro w'
  go_simp
  with_reducible rfl
 rotate_left
 ·simp only [Act.put,List.setIfInBounds_toArray,List.set_cons_zero,List.set_cons_succ,i64_w,i32_w]
  rfl
 refine done_ (by kernel_rfl) ?_
 by_cases c : (l.length : Int) < lim
 ·have hw : wrap64 (lim - (l.length : Int)) = lim - l.length:=by have:=HL.out;have:=HLN.out;unfold wrap64;omega
  have e0 : (if 0 < wrap64 (lim - (l.length : Int)) then wrap64 (lim - (l.length : Int)) else 0) = lim - l.length:=by rw [hw,if_pos (by omega)]
  have e : (lim - (l.length : Int) == 0) = false:=beq_eq_false_iff_ne.2 (by omega)
  rw [e0,e]
  clear e e0 hw
  have hLL : Hid (l.length < 100000):=Lib.hid (by have:=HL.out;omega)
  have c':=Lib.hid c
  clear c
  try go_wp2
  obtain ⟨we,hwe⟩ : ∃ we,we = wd.drew:=⟨_,rfl⟩
  have HPe : Hid (we.heap[p]? = some (.cells cs T (0,0))):=by rw [hwe];exact Lib.hid (blk_drew HPd.out)
  have HGe : Hid (we.heap[g]? = some (.cells ⟨[.int .i64 x.f0, .int .i64 x.f1, .int .i64 x.f2, .bool x.f3.f0, .int .u32 x.f3.f1, .bool x.f3.f2, .int .i64 x.f3.f3, .slice A7 x.f3.f4.length c7]⟩ 56 (0,0))):=by rw [hwe];exact Lib.hid (blk_drew HGd.out)
  have HTe : Hid (Below w.heap.size w we):=by rw [hwe];exact Lib.hid (below_drew HTd.out)
  refine start_ (n:=11) (S:=fun w' : World => w'.heap[p]? = some (.cells cs T (0,0)) ∧ w'.heap[g]? = some (.cells ⟨[.int .i64 x.f0, .int .i64 x.f1, .int .i64 x.f2, .bool x.f3.f0, .int .u32 x.f3.f1, .bool x.f3.f2, .int .i64 x.f3.f3, .slice A7 x.f3.f4.length c7]⟩ 56 (0,0))) (ds := [10]) #[false,false,false,false,false,false,false,false,false,false,false] (by kernel_rfl) rfl rfl (hwe ▸ ⟨HPe.out,HGe.out⟩) (fun hHeld => ?_)
  rw [← hwe] at hHeld ⊢
  clear hwe
  refine pure_ (i:=0) (N:=some 17) (v := ?_) (a' := ?_) #[true,false,false,false,false,false,false,false,false,false,false] rfl rfl (by kernel_rfl) (fun _ _ _ h => h) (Or.inl ⟨by rfl, ?_⟩) ?_ ?_
  rotate_left
  ·intro w'
   go_simp
   with_reducible rfl
  rotate_left
  ·simp only [Act.put,List.setIfInBounds_toArray,List.set_cons_zero,List.set_cons_succ,i64_w,i32_w]
   rfl
  refine pure_ (i:=1) (N:=some 18) (v := ?_) (a' := ?_) #[true,true,false,false,false,false,false,false,false,false,false] rfl rfl (by kernel_rfl) (fun _ _ _ h => h) (Or.inl ⟨by rfl, ?_⟩) ?_ ?_
  rotate_left
  ·intro w'
   go_simp
   with_reducible rfl
  rotate_left
  ·simp only [Act.put,List.setIfInBounds_toArray,List.set_cons_zero,List.set_cons_succ,i64_w,i32_w]
   rfl
  refine pure_ (i:=2) (N:=some 19) (v := ?_) (a' := ?_) #[true,true,true,false,false,false,false,false,false,false,false] rfl rfl (by kernel_rfl) (fun _ _ _ h => h) (Or.inl ⟨by rfl, ?_⟩) ?_ ?_
  rotate_left
  ·intro w'
   go_simp
   with_reducible rfl
  rotate_left
  ·simp only [Act.put,List.setIfInBounds_toArray,List.set_cons_zero,List.set_cons_succ,i64_w,i32_w]
   rfl
  refine pure_ (i:=3) (N:=some 20) (v := ?_) (a' := ?_) #[true,true,true,true,false,false,false,false,false,false,false] rfl rfl (by kernel_rfl) (fun _ _ _ h => h) (Or.inl ⟨by rfl, ?_⟩) ?_ ?_
  rotate_left
  ·intro w'
   go_simp
   with_reducible rfl
  rotate_left
  ·simp only [Act.put,List.setIfInBounds_toArray,List.set_cons_zero,List.set_cons_succ,i64_w,i32_w]
   rfl
  refine take_ (i:=4) (N:=some 21) (v := ?_) (a' := ?_) #[true,true,true,true,true,false,false,false,false,false,false] rfl rfl (by kernel_rfl) (fun _ _ _ h => h) (Or.inl ⟨by rfl, ?_⟩) hHeld ?_ ?_
  rotate_left
  ·rintro w' ⟨s0,s1⟩
   have e0 : w'.cell? ⟨p,j + 1,none⟩ = some (.slice A l.length c):=(blk_cell s0 (j + 1)).trans H1.out
   go_simp
   with_reducible rfl
  rotate_left
  ·simp only [Act.put,List.setIfInBounds_toArray,List.set_cons_zero,List.set_cons_succ,i64_w,i32_w]
   rfl
  refine take_ (i:=5) (N:=some 22) (v := ?_) (a' := ?_) #[true,true,true,true,true,true,false,false,false,false,false] rfl rfl (by kernel_rfl) (fun _ _ _ h => h) (Or.inl ⟨by rfl, ?_⟩) hHeld ?_ ?_
  rotate_left
  ·rintro w' ⟨s0,s1⟩
   have e0 : w'.cell? ⟨g,0,none⟩ = some (.int .i64 x.f0):=blk_cell s1 0
   have e1 : w'.cell? ⟨g,1,none⟩ = some (.int .i64 x.f1):=blk_cell s1 1
   have e2 : w'.cell? ⟨g,2,none⟩ = some (.int .i64 x.f2):=blk_cell s1 2
   have e3 : w'.cell? ⟨g,3,none⟩ = some (.bool x.f3.f0):=blk_cell s1 3
   have e4 : w'.cell? ⟨g,4,none⟩ = some (.int .u32 x.f3.f1):=blk_cell s1 4
   have e5 : w'.cell? ⟨g,5,none⟩ = some (.bool x.f3.f2):=blk_cell s1 5
   have e6 : w'.cell? ⟨g,6,none⟩ = some (.int .i64 x.f3.f3):=blk_cell s1 6
   have e7 : w'.cell? ⟨g,7,none⟩ = some (.slice A7 x.f3.f4.length c7):=blk_cell s1 7
   go_simp
   with_reducible rfl
  rotate_left
  ·simp only [Act.put,List.setIfInBounds_toArray,List.set_cons_zero,List.set_cons_succ,i64_w,i32_w]
   rfl
  refine one_ (i:=6) (N:=some 23) #[true,true,true,true,true,true,true,false,false,false,false] rfl rfl (by kernel_rfl) (by decide) (fun K hK => ?_)
  refine value_ (w1 := ?_) (v := ?_) (by rfl) rfl ?_ ?_
  rotate_left 2
  ·go_simp
   constructor
   ·rfl
   ·rfl
  refine hK.out _ _ ⟨blk_alloc HPe.out _,blk_alloc HGe.out _⟩ (fun hHeld => ?_)
  clear hK K
  refine norm_ (a' := ?_) ?_ ?_
  rotate_left
  ·show Act.put _ (some 23) _ = _
   simp only [Act.put,List.setIfInBounds_toArray,List.set_cons_zero,List.set_cons_succ,i64_w,i32_w]
   rfl
  refine one_ (i:=7) (N:=some 24) #[true,true,true,true,true,true,true,true,false,false,false] rfl rfl (by kernel_rfl) (by decide) (fun K hK => ?_)
  refine Kd.S_append_step k56 (w0:=w0) w0.heap.size (by rfl) (.tmp 21) (.tmp 23) 30 56 (.agg #[(.int .i64 0),(.int .i64 0),(.int .i64 0),(.bool false),(.int .u32 0),(.bool false),(.int .i64 0),(.slice none 0 0)]) 72 rfl Try.underlying30 info56 rfl (by decide) (by omega) (.slice A l.length c) l x [.int .i64 x.f0, .int .i64 x.f1, .int .i64 x.f2, .bool x.f3.f0, .int .u32 x.f3.f1, .bool x.f3.f2, .int .i64 x.f3.f3, .slice A7 x.f3.f4.length c7] (fun k => okv k ∨ okx k ∨ w.heap.size ≤ k) okx rfl rfl ?aP ?aK ?aF ?aO ?aB ?aS ?aL ?_
  (case aP => exact Kd.M_below HXX.out HTe.out)
  (case aK => exact fun k hk => ⟨.inr (.inl hk),fun e => HD.out k hk (S_own_ok HSS.out e.symm)⟩)
  (case aF => exact fun k hk => .inr (.inr (Nat.le_trans HTe.out.size hk)))
  (case aO => exact Kd.S_mono (Kd.S_below HSS.out HTe.out) (fun k hk => ⟨.inl hk,fun h => HD.out k h hk⟩))
  (case aB => exact below_then HB.out HB.out.size HTe.out)
  (case aS => exact Nat.le_trans HB.out.size HTe.out.size)
  (case aL => have:=hLL.out;omega)
  intro v1 w2 hS hb hg hat
  have hnp : some p ≠ (Value.slice A l.length c).ownBlock:=Kd.S_ne HSS.out HP.out (fun e => HTT.out.1 e.symm)
  have hng : some g ≠ (Value.slice A l.length c).ownBlock:=fun e => by have h1:=Kd.S_lt HSS.out g e.symm;have h2:=HG.out;omega
  have HP2:=Lib.hid (blk_grown (g:=p) HPe.out hg hnp)
  have HG2:=Lib.hid (blk_grown (g:=g) HGe.out hg hng)
  have HS2:=Lib.hid hS
  have HT2:=Lib.hid (((Tch.of_below (fun k => k = p ∨ some k = (Value.slice A l.length c).ownBlock) HTe.out)).grown hg (fun k e => .inl (.inr e.symm)))
  clear hS hb hg hat hnp hng
  obtain ⟨A1,c1,rfl⟩:=Kd.S_slice HS2.out
  refine hK.out _ _ ⟨HP2.out,HG2.out⟩ (fun hHeld => ?_)
  clear hK K
  refine norm_ (a' := ?_) ?_ ?_
  rotate_left
  ·show Act.put _ (some 24) _ = _
   simp only [Act.put,List.setIfInBounds_toArray,List.set_cons_zero,List.set_cons_succ,i64_w,i32_w]
   rfl
  refine pure_ (i:=8) (N:=some 25) (v := ?_) (a' := ?_) #[true,true,true,true,true,true,true,true,true,false,false] rfl rfl (by kernel_rfl) (fun _ _ _ h => h) (Or.inl ⟨by rfl, ?_⟩) ?_ ?_
  rotate_left
  ·intro w'
   go_simp
   with_reducible rfl
  rotate_left
  ·simp only [Act.put,List.setIfInBounds_toArray,List.set_cons_zero,List.set_cons_succ,i64_w,i32_w]
   rfl
  refine pure_ (i:=9) (N:=some 26) (v := ?_) (a' := ?_) #[true,true,true,true,true,true,true,true,true,true,false] rfl rfl (by kernel_rfl) (fun _ _ _ h => h) (Or.inl ⟨by rfl, ?_⟩) ?_ ?_
  rotate_left
  ·intro w'
   go_simp
   with_reducible rfl
  rotate_left
  ·simp only [Act.put,List.setIfInBounds_toArray,List.set_cons_zero,List.set_cons_succ,i64_w,i32_w]
   rfl
  refine last_ (i:=10) (N:=none) #[true,true,true,true,true,true,true,true,true,true,true] rfl rfl (by kernel_rfl) (by decide) (fun K hK => ?_)
  refine st_one (by rfl) rfl rfl (g:=p) (j:=j + 1) (cs:=cs) (T:=T) (u := .slice A1 (l ++ [x]).length c1) (u0 := .slice A l.length c) rfl rfl HP2.out rfl (by kernel_rfl) rfl H1.out ?_
  intro w3 hx3 hT3
  have HP3:=Lib.hid hx3
  have HS3:=Lib.hid (S_tch HS2.out HP2.out (by intro q hq;have hq : q ∈ [56,5]:=hq;rcases List.mem_cons.1 hq with rfl | hq;exact fun e => HTT.out.1 e.symm;rw [List.mem_singleton.1 hq];exact fun e => HTT.out.2 e.symm) hT3)
  have HT3:=Lib.hid (HT2.out.trans (hT3.mono (fun k hk => .inl hk)))
  clear hx3 hT3
  refine hK.out _ _ ?_
  clear hK K
  refine done_ (by kernel_rfl) ?_
  go_wp2_with (fail)
  go_ret
  exact ⟨fun _ => ⟨rfl,_,HP3.out,HS3.out,HT3.out⟩,fun h => absurd h (by have:=c'.out;omega)⟩
 ·have hw : wrap64 (lim - (l.length : Int)) = lim - l.length:=by have:=HL.out;have:=HLN.out;unfold wrap64;omega
  have e0 : (if 0 < wrap64 (lim - (l.length : Int)) then wrap64 (lim - (l.length : Int)) else 0) = 0:=by rw [hw,if_neg (by omega)]
  have e : ((0 : Int) == 0) = true:=rfl
  rw [e0,e]
  clear e e0 hw
  have c':=Lib.hid c
  clear c
  go_wp2_with (fail)
  go_ret
  exact ⟨fun h => by have:=c'.out;omega,fun _ => ⟨rfl,HTd.out⟩⟩
set_option maxRecDepth 100000 in
set_option maxHeartbeats 4000000 in
theorem pushQ_v (w0 w : World) (p j : Nat) (cs : Array Value) (T : TypeId) (lim : Int) (v : Value) (l : List S45) (x : S45) (C : List Value) (okv okx : Nat → Prop)
  (hB : Below w0.heap.size w0 w) (hp : w.heap[p]? = some (.cells cs T (0,0))) (hpB : w0.heap.size ≤ p) (hT : T ≠ 45 ∧ T ≠ 5) (h0 : cs[j]? = some (.int .i64 lim)) (h1 : cs[j + 1]? = some v) (hl : 0 ≤ lim ∧ lim ≤ 100000) (hln : l.length ≤ 100000)
  (HS : Kd.S k45 45 w w0.heap.size okv v l) (HX : k45.M w w0.heap.size okx x C) (hd : ∀ k,okx k → ¬ okv k) :
  Calls Try.prog 139 #[.pointer (some ⟨p,j,none⟩), .agg ⟨C⟩] w fun e w' =>
   ((l.length : Int) < lim → e = .returned (.bool true) ∧ ∃ v',w'.heap[p]? = some (.cells (cs.setIfInBounds (j + 1) v') T (0,0)) ∧ Kd.S k45 45 w' w0.heap.size (fun k => okv k ∨ okx k ∨ w.heap.size ≤ k) v' (l ++ [x]) ∧ Tch w w' (fun k => k = p ∨ some k = v.ownBlock)) ∧
   (lim ≤ (l.length : Int) → e = .returned (.bool false) ∧ Below w.heap.size w w'):=by
 obtain ⟨A,c,rfl⟩:=Kd.S_slice HS
 have HLN:=Lib.hid hln
 clear hln
 obtain ⟨v7,rfl,g7⟩:=k45_openM HX
 obtain ⟨A7,c7,rfl⟩:=Kd.R_slice g7
 clear g7
 have HP:=Lib.hid hp
 have HI : Hid ((Try.prog.info? 45).map (·.size) = some 5):=Lib.hid (by kernel_rfl)
 have hu:=Lib.hid Try.underlying45
 have H0:=Lib.hid h0
 have H1:=Lib.hid h1
 have HSS:=Lib.hid HS
 have HXX:=Lib.hid HX
 have HL:=Lib.hid hl
 have HB:=Lib.hid hB
 have HPB:=Lib.hid hpB
 have HTT:=Lib.hid hT
 have HD:=Lib.hid hd
 clear hp h0 h1 HS HX hl hB hpB hT hd
 go_enter Try.func139,Try.ntmps139
 go_upto_region 1 with (first | ((with_reducible refine gate_dst (N:=3) rfl ?_);refine box_event ?hg (N:=3) ?hd (cs:=⟨[.bool x.f0, .int .u32 x.f1, .bool x.f2, .int .i64 x.f3, .slice A7 x.f4.length c7]⟩) (t:=45) ?hr ?_;(case hd => rfl);(case hg => rfl);(case hr => first | (go_simp;done) | (go_simp;rfl));intro g hg w1 hbox hb;have HG:=Lib.hid hg;have HX1:=Lib.hid hbox;have HB1:=Lib.hid hb;clear hg hbox hb))
 have HP1:=Lib.hid (blk_below HP.out HB1.out)
 obtain ⟨wd,hwd⟩ : ∃ wd,wd = w1.drew:=⟨_,rfl⟩
 have HPd : Hid (wd.heap[p]? = some (.cells cs T (0,0))):=by rw [hwd];exact Lib.hid (blk_drew HP1.out)
 have HGd : Hid (wd.heap[g]? = some (.cells ⟨[.bool x.f0, .int .u32 x.f1, .bool x.f2, .int .i64 x.f3, .slice A7 x.f4.length c7]⟩ 45 (0,0))):=by rw [hwd];exact Lib.hid (blk_drew HX1.out)
 have HTd : Hid (Below w.heap.size w wd):=by rw [hwd];exact Lib.hid (below_drew HB1.out)
 refine start_ (n:=12) (S:=fun w' : World => w'.heap[p]? = some (.cells cs T (0,0))) (ds := []) #[false,false,false,false,false,false,false,false,false,false,false,false] (by kernel_rfl) rfl rfl (hwd ▸ HPd.out) (fun hHeld => ?_)
 rw [← hwd] at hHeld ⊢
 clear hwd
 refine pure_ (i:=0) (N:=some 5) (v := ?_) (a' := ?_) #[true,false,false,false,false,false,false,false,false,false,false,false] rfl rfl (by kernel_rfl) (fun _ _ _ h => h) (Or.inl ⟨by rfl, ?_⟩) ?_ ?_
 rotate_left
 ·intro w'
  go_simp
  with_reducible rfl
 rotate_left
 ·simp only [Act.put,List.setIfInBounds_toArray,List.set_cons_zero,List.set_cons_succ,i64_w,i32_w]
  rfl
 refine pure_ (i:=1) (N:=some 6) (v := ?_) (a' := ?_) #[true,true,false,false,false,false,false,false,false,false,false,false] rfl rfl (by kernel_rfl) (fun _ _ _ h => h) (Or.inl ⟨by rfl, ?_⟩) ?_ ?_
 rotate_left
 ·intro w'
  go_simp
  with_reducible rfl
 rotate_left
 ·simp only [Act.put,List.setIfInBounds_toArray,List.set_cons_zero,List.set_cons_succ,i64_w,i32_w]
  rfl
 refine pure_ (i:=2) (N:=some 7) (v := ?_) (a' := ?_) #[true,true,true,false,false,false,false,false,false,false,false,false] rfl rfl (by kernel_rfl) (fun _ _ _ h => h) (Or.inl ⟨by rfl, ?_⟩) ?_ ?_
 rotate_left
 ·intro w'
  go_simp
  with_reducible rfl
 rotate_left
 ·simp only [Act.put,List.setIfInBounds_toArray,List.set_cons_zero,List.set_cons_succ,i64_w,i32_w]
  rfl
 refine take_ (i:=3) (N:=some 8) (v := ?_) (a' := ?_) #[true,true,true,true,false,false,false,false,false,false,false,false] rfl rfl (by kernel_rfl) (fun _ _ _ h => h) (Or.inl ⟨by rfl, ?_⟩) hHeld ?_ ?_
 rotate_left
 ·intro w' s0
  have e0 : w'.cell? ⟨p,j,none⟩ = some (.int .i64 lim):=(blk_cell s0 j).trans H0.out
  go_simp
  with_reducible rfl
 rotate_left
 ·simp only [Act.put,List.setIfInBounds_toArray,List.set_cons_zero,List.set_cons_succ,i64_w,i32_w]
  rfl
 refine pure_ (i:=4) (N:=some 9) (v := ?_) (a' := ?_) #[true,true,true,true,true,false,false,false,false,false,false,false] rfl rfl (by kernel_rfl) (fun _ _ _ h => h) (Or.inl ⟨by rfl, ?_⟩) ?_ ?_
 rotate_left
 ·intro w'
  go_simp
  with_reducible rfl
 rotate_left
 ·simp only [Act.put,List.setIfInBounds_toArray,List.set_cons_zero,List.set_cons_succ,i64_w,i32_w]
  rfl
 refine pure_ (i:=5) (N:=some 10) (v := ?_) (a' := ?_) #[true,true,true,true,true,true,false,false,false,false,false,false] rfl rfl (by kernel_rfl) (fun _ _ _ h => h) (Or.inl ⟨by rfl, ?_⟩) ?_ ?_
 rotate_left
 ·intro w'
  go_simp
  with_reducible rfl
 rotate_left
 ·simp only [Act.put,List.setIfInBounds_toArray,List.set_cons_zero,List.set_cons_succ,i64_w,i32_w]
  rfl
 refine pure_ (i:=6) (N:=some 11) (v := ?_) (a' := ?_) #[true,true,true,true,true,true,true,false,false,false,false,false] rfl rfl (by kernel_rfl) (fun _ _ _ h => h) (Or.inl ⟨by rfl, ?_⟩) ?_ ?_
 rotate_left
 ·intro w'
  go_simp
  with_reducible rfl
 rotate_left
 ·simp only [Act.put,List.setIfInBounds_toArray,List.set_cons_zero,List.set_cons_succ,i64_w,i32_w]
  rfl
 refine take_ (i:=7) (N:=some 12) (v := ?_) (a' := ?_) #[true,true,true,true,true,true,true,true,false,false,false,false] rfl rfl (by kernel_rfl) (fun _ _ _ h => h) (Or.inl ⟨by rfl, ?_⟩) hHeld ?_ ?_
 rotate_left
 ·intro w' s0
  have e0 : w'.cell? ⟨p,j + 1,none⟩ = some (.slice A l.length c):=(blk_cell s0 (j + 1)).trans H1.out
  go_simp
  with_reducible rfl
 rotate_left
 ·simp only [Act.put,List.setIfInBounds_toArray,List.set_cons_zero,List.set_cons_succ,i64_w,i32_w]
  rfl
 refine pure_ (i:=8) (N:=some 13) (v := ?_) (a' := ?_) #[true,true,true,true,true,true,true,true,true,false,false,false] rfl rfl (by kernel_rfl) (fun _ _ _ h => h) (Or.inl ⟨by rfl, ?_⟩) ?_ ?_
 rotate_left
 ·intro w'
  go_simp
  with_reducible rfl
 rotate_left
 ·simp only [Act.put,List.setIfInBounds_toArray,List.set_cons_zero,List.set_cons_succ,i64_w,i32_w]
  rfl
 refine pure_ (i:=9) (N:=some 14) (v := ?_) (a' := ?_) #[true,true,true,true,true,true,true,true,true,true,false,false] rfl rfl (by kernel_rfl) (fun _ _ _ h => h) (Or.inl ⟨by rfl, ?_⟩) ?_ ?_
 rotate_left
 ·intro w'
  go_simp
  with_reducible rfl
 rotate_left
 ·simp only [Act.put,List.setIfInBounds_toArray,List.set_cons_zero,List.set_cons_succ,i64_w,i32_w]
  rfl
 refine pure_ (i:=10) (N:=some 15) (v := ?_) (a' := ?_) #[true,true,true,true,true,true,true,true,true,true,true,false] rfl rfl (by kernel_rfl) (fun _ _ _ h => h) (Or.inl ⟨by rfl, ?_⟩) ?_ ?_
 rotate_left
 ·intro w'
  go_simp
  with_reducible rfl
 rotate_left
 ·simp only [Act.put,List.setIfInBounds_toArray,List.set_cons_zero,List.set_cons_succ,i64_w,i32_w]
  rfl
 refine pure_ (i:=11) (N:=some 16) (v := ?_) (a' := ?_) #[true,true,true,true,true,true,true,true,true,true,true,true] rfl rfl (by kernel_rfl) (fun _ _ _ h => h) (Or.inl ⟨by rfl, ?_⟩) ?_ ?_
 rotate_left
 ·intro w'
  go_simp
  with_reducible rfl
 rotate_left
 ·simp only [Act.put,List.setIfInBounds_toArray,List.set_cons_zero,List.set_cons_succ,i64_w,i32_w]
  rfl
 refine done_ (by kernel_rfl) ?_
 by_cases c : (l.length : Int) < lim
 ·have hw : wrap64 (lim - (l.length : Int)) = lim - l.length:=by have:=HL.out;have:=HLN.out;unfold wrap64;omega
  have e0 : (if 0 < wrap64 (lim - (l.length : Int)) then wrap64 (lim - (l.length : Int)) else 0) = lim - l.length:=by rw [hw,if_pos (by omega)]
  have e : (lim - (l.length : Int) == 0) = false:=beq_eq_false_iff_ne.2 (by omega)
  rw [e0,e]
  clear e e0 hw
  have hLL : Hid (l.length < 100000):=Lib.hid (by have:=HL.out;omega)
  have c':=Lib.hid c
  clear c
  try go_wp2
  obtain ⟨we,hwe⟩ : ∃ we,we = wd.drew:=⟨_,rfl⟩
  have HPe : Hid (we.heap[p]? = some (.cells cs T (0,0))):=by rw [hwe];exact Lib.hid (blk_drew HPd.out)
  have HGe : Hid (we.heap[g]? = some (.cells ⟨[.bool x.f0, .int .u32 x.f1, .bool x.f2, .int .i64 x.f3, .slice A7 x.f4.length c7]⟩ 45 (0,0))):=by rw [hwe];exact Lib.hid (blk_drew HGd.out)
  have HTe : Hid (Below w.heap.size w we):=by rw [hwe];exact Lib.hid (below_drew HTd.out)
  refine start_ (n:=11) (S:=fun w' : World => w'.heap[p]? = some (.cells cs T (0,0)) ∧ w'.heap[g]? = some (.cells ⟨[.bool x.f0, .int .u32 x.f1, .bool x.f2, .int .i64 x.f3, .slice A7 x.f4.length c7]⟩ 45 (0,0))) (ds := [10]) #[false,false,false,false,false,false,false,false,false,false,false] (by kernel_rfl) rfl rfl (hwe ▸ ⟨HPe.out,HGe.out⟩) (fun hHeld => ?_)
  rw [← hwe] at hHeld ⊢
  clear hwe
  refine pure_ (i:=0) (N:=some 17) (v := ?_) (a' := ?_) #[true,false,false,false,false,false,false,false,false,false,false] rfl rfl (by kernel_rfl) (fun _ _ _ h => h) (Or.inl ⟨by rfl, ?_⟩) ?_ ?_
  rotate_left
  ·intro w'
   go_simp
   with_reducible rfl
  rotate_left
  ·simp only [Act.put,List.setIfInBounds_toArray,List.set_cons_zero,List.set_cons_succ,i64_w,i32_w]
   rfl
  refine pure_ (i:=1) (N:=some 18) (v := ?_) (a' := ?_) #[true,true,false,false,false,false,false,false,false,false,false] rfl rfl (by kernel_rfl) (fun _ _ _ h => h) (Or.inl ⟨by rfl, ?_⟩) ?_ ?_
  rotate_left
  ·intro w'
   go_simp
   with_reducible rfl
  rotate_left
  ·simp only [Act.put,List.setIfInBounds_toArray,List.set_cons_zero,List.set_cons_succ,i64_w,i32_w]
   rfl
  refine pure_ (i:=2) (N:=some 19) (v := ?_) (a' := ?_) #[true,true,true,false,false,false,false,false,false,false,false] rfl rfl (by kernel_rfl) (fun _ _ _ h => h) (Or.inl ⟨by rfl, ?_⟩) ?_ ?_
  rotate_left
  ·intro w'
   go_simp
   with_reducible rfl
  rotate_left
  ·simp only [Act.put,List.setIfInBounds_toArray,List.set_cons_zero,List.set_cons_succ,i64_w,i32_w]
   rfl
  refine pure_ (i:=3) (N:=some 20) (v := ?_) (a' := ?_) #[true,true,true,true,false,false,false,false,false,false,false] rfl rfl (by kernel_rfl) (fun _ _ _ h => h) (Or.inl ⟨by rfl, ?_⟩) ?_ ?_
  rotate_left
  ·intro w'
   go_simp
   with_reducible rfl
  rotate_left
  ·simp only [Act.put,List.setIfInBounds_toArray,List.set_cons_zero,List.set_cons_succ,i64_w,i32_w]
   rfl
  refine take_ (i:=4) (N:=some 21) (v := ?_) (a' := ?_) #[true,true,true,true,true,false,false,false,false,false,false] rfl rfl (by kernel_rfl) (fun _ _ _ h => h) (Or.inl ⟨by rfl, ?_⟩) hHeld ?_ ?_
  rotate_left
  ·rintro w' ⟨s0,s1⟩
   have e0 : w'.cell? ⟨p,j + 1,none⟩ = some (.slice A l.length c):=(blk_cell s0 (j + 1)).trans H1.out
   go_simp
   with_reducible rfl
  rotate_left
  ·simp only [Act.put,List.setIfInBounds_toArray,List.set_cons_zero,List.set_cons_succ,i64_w,i32_w]
   rfl
  refine take_ (i:=5) (N:=some 22) (v := ?_) (a' := ?_) #[true,true,true,true,true,true,false,false,false,false,false] rfl rfl (by kernel_rfl) (fun _ _ _ h => h) (Or.inl ⟨by rfl, ?_⟩) hHeld ?_ ?_
  rotate_left
  ·rintro w' ⟨s0,s1⟩
   have e0 : w'.cell? ⟨g,0,none⟩ = some (.bool x.f0):=blk_cell s1 0
   have e1 : w'.cell? ⟨g,1,none⟩ = some (.int .u32 x.f1):=blk_cell s1 1
   have e2 : w'.cell? ⟨g,2,none⟩ = some (.bool x.f2):=blk_cell s1 2
   have e3 : w'.cell? ⟨g,3,none⟩ = some (.int .i64 x.f3):=blk_cell s1 3
   have e4 : w'.cell? ⟨g,4,none⟩ = some (.slice A7 x.f4.length c7):=blk_cell s1 4
   go_simp
   with_reducible rfl
  rotate_left
  ·simp only [Act.put,List.setIfInBounds_toArray,List.set_cons_zero,List.set_cons_succ,i64_w,i32_w]
   rfl
  refine one_ (i:=6) (N:=some 23) #[true,true,true,true,true,true,true,false,false,false,false] rfl rfl (by kernel_rfl) (by decide) (fun K hK => ?_)
  refine value_ (w1 := ?_) (v := ?_) (by rfl) rfl ?_ ?_
  rotate_left 2
  ·go_simp
   constructor
   ·rfl
   ·rfl
  refine hK.out _ _ ⟨blk_alloc HPe.out _,blk_alloc HGe.out _⟩ (fun hHeld => ?_)
  clear hK K
  refine norm_ (a' := ?_) ?_ ?_
  rotate_left
  ·show Act.put _ (some 23) _ = _
   simp only [Act.put,List.setIfInBounds_toArray,List.set_cons_zero,List.set_cons_succ,i64_w,i32_w]
   rfl
  refine one_ (i:=7) (N:=some 24) #[true,true,true,true,true,true,true,true,false,false,false] rfl rfl (by kernel_rfl) (by decide) (fun K hK => ?_)
  refine Kd.S_append_step k45 (w0:=w0) w0.heap.size (by rfl) (.tmp 21) (.tmp 23) 29 45 (.agg #[(.bool false),(.int .u32 0),(.bool false),(.int .i64 0),(.slice none 0 0)]) 48 rfl Try.underlying29 info45 rfl (by decide) (by omega) (.slice A l.length c) l x [.bool x.f0, .int .u32 x.f1, .bool x.f2, .int .i64 x.f3, .slice A7 x.f4.length c7] (fun k => okv k ∨ okx k ∨ w.heap.size ≤ k) okx rfl rfl ?aP ?aK ?aF ?aO ?aB ?aS ?aL ?_
  (case aP => exact Kd.M_below HXX.out HTe.out)
  (case aK => exact fun k hk => ⟨.inr (.inl hk),fun e => HD.out k hk (S_own_ok HSS.out e.symm)⟩)
  (case aF => exact fun k hk => .inr (.inr (Nat.le_trans HTe.out.size hk)))
  (case aO => exact Kd.S_mono (Kd.S_below HSS.out HTe.out) (fun k hk => ⟨.inl hk,fun h => HD.out k h hk⟩))
  (case aB => exact below_then HB.out HB.out.size HTe.out)
  (case aS => exact Nat.le_trans HB.out.size HTe.out.size)
  (case aL => have:=hLL.out;omega)
  intro v1 w2 hS hb hg hat
  have hnp : some p ≠ (Value.slice A l.length c).ownBlock:=Kd.S_ne HSS.out HP.out (fun e => HTT.out.1 e.symm)
  have hng : some g ≠ (Value.slice A l.length c).ownBlock:=fun e => by have h1:=Kd.S_lt HSS.out g e.symm;have h2:=HG.out;omega
  have HP2:=Lib.hid (blk_grown (g:=p) HPe.out hg hnp)
  have HG2:=Lib.hid (blk_grown (g:=g) HGe.out hg hng)
  have HS2:=Lib.hid hS
  have HT2:=Lib.hid (((Tch.of_below (fun k => k = p ∨ some k = (Value.slice A l.length c).ownBlock) HTe.out)).grown hg (fun k e => .inl (.inr e.symm)))
  clear hS hb hg hat hnp hng
  obtain ⟨A1,c1,rfl⟩:=Kd.S_slice HS2.out
  refine hK.out _ _ ⟨HP2.out,HG2.out⟩ (fun hHeld => ?_)
  clear hK K
  refine norm_ (a' := ?_) ?_ ?_
  rotate_left
  ·show Act.put _ (some 24) _ = _
   simp only [Act.put,List.setIfInBounds_toArray,List.set_cons_zero,List.set_cons_succ,i64_w,i32_w]
   rfl
  refine pure_ (i:=8) (N:=some 25) (v := ?_) (a' := ?_) #[true,true,true,true,true,true,true,true,true,false,false] rfl rfl (by kernel_rfl) (fun _ _ _ h => h) (Or.inl ⟨by rfl, ?_⟩) ?_ ?_
  rotate_left
  ·intro w'
   go_simp
   with_reducible rfl
  rotate_left
  ·simp only [Act.put,List.setIfInBounds_toArray,List.set_cons_zero,List.set_cons_succ,i64_w,i32_w]
   rfl
  refine pure_ (i:=9) (N:=some 26) (v := ?_) (a' := ?_) #[true,true,true,true,true,true,true,true,true,true,false] rfl rfl (by kernel_rfl) (fun _ _ _ h => h) (Or.inl ⟨by rfl, ?_⟩) ?_ ?_
  rotate_left
  ·intro w'
   go_simp
   with_reducible rfl
  rotate_left
  ·simp only [Act.put,List.setIfInBounds_toArray,List.set_cons_zero,List.set_cons_succ,i64_w,i32_w]
   rfl
  refine last_ (i:=10) (N:=none) #[true,true,true,true,true,true,true,true,true,true,true] rfl rfl (by kernel_rfl) (by decide) (fun K hK => ?_)
  refine st_one (by rfl) rfl rfl (g:=p) (j:=j + 1) (cs:=cs) (T:=T) (u := .slice A1 (l ++ [x]).length c1) (u0 := .slice A l.length c) rfl rfl HP2.out rfl (by kernel_rfl) rfl H1.out ?_
  intro w3 hx3 hT3
  have HP3:=Lib.hid hx3
  have HS3:=Lib.hid (S_tch HS2.out HP2.out (by intro q hq;have hq : q ∈ [45,5]:=hq;rcases List.mem_cons.1 hq with rfl | hq;exact fun e => HTT.out.1 e.symm;rw [List.mem_singleton.1 hq];exact fun e => HTT.out.2 e.symm) hT3)
  have HT3:=Lib.hid (HT2.out.trans (hT3.mono (fun k hk => .inl hk)))
  clear hx3 hT3
  refine hK.out _ _ ?_
  clear hK K
  refine done_ (by kernel_rfl) ?_
  go_wp2_with (fail)
  go_ret
  exact ⟨fun _ => ⟨rfl,_,HP3.out,HS3.out,HT3.out⟩,fun h => absurd h (by have:=c'.out;omega)⟩
 ·have hw : wrap64 (lim - (l.length : Int)) = lim - l.length:=by have:=HL.out;have:=HLN.out;unfold wrap64;omega
  have e0 : (if 0 < wrap64 (lim - (l.length : Int)) then wrap64 (lim - (l.length : Int)) else 0) = 0:=by rw [hw,if_neg (by omega)]
  have e : ((0 : Int) == 0) = true:=rfl
  rw [e0,e]
  clear e e0 hw
  have c':=Lib.hid c
  clear c
  go_wp2_with (fail)
  go_ret
  exact ⟨fun h => by have:=c'.out;omega,fun _ => ⟨rfl,HTd.out⟩⟩
end Go.Proofs.Ytcaefabbcjlkdaa.P
namespace Go.Proofs.Ytcaefabbcjlkdaa.P
open Go.RowKit Go.Proofs.YtcaefabbcjlkdaaW.PrintWords Go.Proofs.YtcaefabbcjlkdaaW.PrintLast Go.Proofs.YtcaefabbcjlkdaaW.PrintMore
set_option linter.unusedVariables false
set_option linter.unusedSimpArgs false
def impl_copyFrame.f (a0_0 : Bool) (a0_1 : Int) (a0_2 : Bool) (a0_3 : Int) (l0_4 : List Int) : Option (Bool × Int × Bool × Int × List Int):=(some (([] : List Int) : List Int)).bind fun y106 => (if y106.length + l0_4.length < 140737488355328 then (some (a0_0,a0_1,a0_2,a0_3,(y106 ++ l0_4))) else (none))
set_option maxHeartbeats 8000000 in
set_option maxRecDepth 100000 in
theorem impl_copyFrame.calls (a0_0 : Bool) (a0_1 : Int) (a0_2 : Bool) (a0_3 : Int) (A0_4 : Option Addr) (c0_4 : Nat) (l0_4 : List Int) (r1 : Bool) (r2 : Int) (r3 : Bool) (r4 : Int) (r5 : List Int) (w : World) (hr0_4 : Kd.C (Kd.int .u8) w A0_4 l0_4.length l0_4) (hc0_4 : l0_4.length ≤ c0_4) (h : impl_copyFrame.f a0_0 a0_1 a0_2 a0_3 l0_4 = some (r1,r2,r3,r4,r5)) :
  Calls Try.prog 111 #[.agg #[.bool a0_0, .int .u32 a0_1, .bool a0_2, .int .i64 a0_3, .slice A0_4 l0_4.length c0_4]] w fun e w' => ∃ v4_ : Value,e = .returned (.agg #[.bool r1, .int .u32 r2, .bool r3, .int .i64 r4,v4_]) ∧ Kd.R (Kd.int .u8) 5 w' w.heap.size (fun _ => True) v4_ r5 ∧ Below w.heap.size w w':=by
 have hu45:=Try.underlying45
 have HR0_4:=Aside0.mk hr0_4
 have HC0_4:=Aside0.mk hc0_4
 clear hr0_4 hc0_4
 have HB:=Aside0.mk (Below.refl w.heap.size w)
 have H : ((some (([] : List Int) : List Int)).bind fun y106 => (if y106.length + l0_4.length < 140737488355328 then (some (a0_0,a0_1,a0_2,a0_3,(y106 ++ l0_4))) else (none))) = some (r1,r2,r3,r4,r5):=h
 clear h
 obtain ⟨y106,hy106⟩ : ∃ y_ : List Int,y_ = (([] : List Int)):=⟨_,rfl⟩
 replace H : (if y106.length + l0_4.length < 140737488355328 then (some (a0_0,a0_1,a0_2,a0_3,(y106 ++ l0_4))) else (none)) = some (r1,r2,r3,r4,r5):=by first | (rw [hy106];with_reducible exact H) | (have H2_:=(Option.bind_some _ _).symm.trans H;rw [hy106];with_reducible exact H2_) | (have H2_:=(Option.bind_some _ _).symm.trans H;with_reducible exact H2_) | with_reducible exact H | (rw [hy106];exact H) | exact H
 have Ny106:=Aside0.mk hy106
 clear hy106
 by_cases c2 : y106.length + l0_4.length < 140737488355328
 ·rw [if_pos c2] at H
  have LMc2:=Aside0.mk c2
  clear c2
  obtain ⟨y109,hy109⟩ : ∃ y_ : List Int,y_ = (y106 ++ l0_4):=⟨_,rfl⟩
  replace H : (some (a0_0,a0_1,a0_2,a0_3,y109)) = some (r1,r2,r3,r4,r5):=by first | (rw [hy109];with_reducible exact H) | (have H2_:=(Option.bind_some _ _).symm.trans H;rw [hy109];with_reducible exact H2_) | (have H2_:=(Option.bind_some _ _).symm.trans H;with_reducible exact H2_) | with_reducible exact H | (rw [hy109];exact H) | exact H
  have Ny109:=Aside0.mk hy109
  clear hy109
  simp only [Option.some.injEq,Prod.mk.injEq] at H
  obtain ⟨rfl,rfl,rfl,rfl,rfl⟩:=H
  go_enter Try.func111,Try.ntmps111
  go_wp2_with (first | ((with_reducible refine gate_dst (N:=1) rfl ?_);refine box_event ?hg (N:=1) ?hd (cs := #[.bool a0_0, .int .u32 a0_1, .bool a0_2, .int .i64 a0_3, .slice A0_4 l0_4.length c0_4]) (t:=45) ?hr ?_;(case hd => rfl);(case hg => rfl);(case hr => first | (go_simp;done) | (go_simp;rfl));intro gb104 hg w3 hbox hb;have n0_:=Aside0.mk (below_step (by repeat (first | (with_reducible first | exact HB.out | apply below_alloc | apply pw_below_drewN | apply below_drew1) | exact HB.out)) hb);have n1_:=Aside0.mk (hbox);have n2_:=Aside0.mk ((by rw [hg];exact (below_size (by repeat (first | (with_reducible first | exact HB.out | apply below_alloc | apply pw_below_drewN | apply below_drew1) | exact HB.out))) : w.heap.size ≤ gb104));have n3_:=Aside0.mk ((by rw [hg];exact (below_size (by repeat (first | (with_reducible first | exact HB.out | apply below_alloc | apply pw_below_drewN | apply below_drew1) | exact HB.out))) : w.heap.size ≤ gb104));clear HB;have HB:=n0_;have BK104:=n1_;have GW104:=n2_;have GE104:=n3_;clear n0_ n1_ n2_ n3_;clear hb hbox hg) | ((with_reducible refine gate_dst (N:=2) rfl ?_);refine box_event ?hg (N:=2) ?hd (cs := #[.bool false, .int .u32 0, .bool false, .int .i64 0, .slice none 0 0]) (t:=45) ?hr ?_;(case hd => rfl);(case hg => rfl);(case hr => first | (go_simp;done) | (go_simp;rfl));intro gb105 hg w4 hbox hb;have n0_:=Aside0.mk (blk_below (g:=gb104) (o := .cells #[.bool a0_0, .int .u32 a0_1, .bool a0_2, .int .i64 a0_3, .slice A0_4 l0_4.length c0_4] 45 (0,0)) (by (with_reducible repeat (first | refine blk_drewN ?_ _ | refine blk_drew ?_ | refine blk_alloc ?_ _));exact BK104.out) hb);have n1_:=Aside0.mk (below_step (by repeat (first | (with_reducible first | exact HB.out | apply below_alloc | apply pw_below_drewN | apply below_drew1 | refine below_set ?_ GE104.out) | exact HB.out)) hb);have n2_:=Aside0.mk (hbox);have n3_:=Aside0.mk ((by rw [hg];exact (below_size (by repeat (first | (with_reducible first | exact HB.out | apply below_alloc | apply pw_below_drewN | apply below_drew1 | refine below_set ?_ GE104.out) | exact HB.out))) : w.heap.size ≤ gb105));have n4_:=Aside0.mk ((by rw [hg];exact (below_size (by repeat (first | (with_reducible first | exact HB.out | apply below_alloc | apply pw_below_drewN | apply below_drew1 | refine below_set ?_ GE104.out) | exact HB.out))) : w.heap.size ≤ gb105));have n5_:=Aside0.mk ((by rw [hg];exact Nat.ne_of_lt (blk_lt (g:=gb104) (o := .cells #[.bool a0_0, .int .u32 a0_1, .bool a0_2, .int .i64 a0_3, .slice A0_4 l0_4.length c0_4] 45 (0,0)) (by (with_reducible repeat (first | refine blk_drewN ?_ _ | refine blk_drew ?_ | refine blk_alloc ?_ _));exact BK104.out)) : gb104 ≠ gb105));have n6_:=Aside0.mk ((by rw [hg];exact Nat.ne_of_gt (blk_lt (g:=gb104) (o := .cells #[.bool a0_0, .int .u32 a0_1, .bool a0_2, .int .i64 a0_3, .slice A0_4 l0_4.length c0_4] 45 (0,0)) (by (with_reducible repeat (first | refine blk_drewN ?_ _ | refine blk_drew ?_ | refine blk_alloc ?_ _));exact BK104.out)) : gb105 ≠ gb104));clear BK104;clear HB;have BK104:=n0_;have HB:=n1_;have BK105:=n2_;have GW105:=n3_;have GE105:=n4_;have NB104_105:=n5_;have NB105_104:=n6_;clear n0_ n1_ n2_ n3_ n4_ n5_ n6_;clear hb hbox hg) | ((with_reducible refine gate_dst (N:=3) rfl ?_);refine Kd.R_lit (Kd.int .u8) _ 5 ?hg (N:=3) ?hd (xs:=([] : List Int)) (inner := []) (ok:=fun _ => True) (okp:=fun _ => True) ?hr ?hp (fun _ hk => hk) trivial (Below.refl _ _) (Nat.le_refl _) (by simp) ?_;(case hd => rfl);(case hg => rfl);(case hr => first | (go_simp;done) | (go_simp;rfl));(case hp => exact (Reps.none _ _));intro v107 w5 ho6 hb hg_ hnew_;clear hg_ hnew_;(first | rw [← Ny106.out] at ho6 | (simp only [Int.reduceToNat] at ho6;rw [← Ny106.out] at ho6));have n0_:=Aside0.mk (Kd.R_lower ho6 (below_size (by repeat (first | (with_reducible first | exact HB.out | apply below_alloc | apply pw_below_drewN | apply below_drew1 | refine below_set ?_ GE104.out | refine below_set ?_ GE105.out) | exact HB.out))));have n1_:=Aside0.mk (blk_below (g:=gb104) (o := .cells #[.bool a0_0, .int .u32 a0_1, .bool a0_2, .int .i64 a0_3, .slice A0_4 l0_4.length c0_4] 45 (0,0)) (by (with_reducible repeat (first | refine blk_drewN ?_ _ | refine blk_drew ?_ | refine blk_alloc ?_ _));exact BK104.out) hb);have n2_:=Aside0.mk (blk_below (g:=gb105) (o := .cells #[.bool false, .int .u32 0, .bool false, .int .i64 0, .slice none 0 0] 45 (0,0)) (by (with_reducible repeat (first | refine blk_drewN ?_ _ | refine blk_drew ?_ | refine blk_alloc ?_ _));exact BK105.out) hb);have n3_:=Aside0.mk (below_step (by repeat (first | (with_reducible first | exact HB.out | apply below_alloc | apply pw_below_drewN | apply below_drew1 | refine below_set ?_ GE104.out | refine below_set ?_ GE105.out) | exact HB.out)) hb);clear BK104;clear BK105;clear HB;have HO108:=n0_;have BK104:=n1_;have BK105:=n2_;have HB:=n3_;clear n0_ n1_ n2_ n3_;clear hb ho6;have hnb7:=NB104_105.out;have hnc7:=NB105_104.out;obtain ⟨hcz8_0,hcz8_1,hcz8_2,hcz8_3,hcz8_4⟩:=bc5 BK104.out;obtain ⟨hfz8_0,hfz8_1,hfz8_2,hfz8_3,hfz8_4⟩:=bf5 BK104.out) | ((with_reducible refine gate_builtin (b := .append) (xs := #[.tmp 3, .tmp 5]) rfl ?_);at_builtin;refine Kd.R_append_rows (Kd.int .u8) (w0:=w) w.heap.size rfl (.tmp 3) (.tmp 5) 42 5 (.int .u8 0) 1 rfl Try.underlying42 info5 rfl (by decide) (by omega) v107 y106 l0_4 _ _ _ (fun _ => True) (fun _ => False) rfl rfl ?aO ?aR (fun _ _ h => h) (fun _ h => h.elim) ?aF ?aB ?aS ?aL ?_;(case aR => repeat (first | exact (Kd.C_below HR0_4.out HB.out) | (with_reducible refine Kd.C_alloc ?_ _) | (with_reducible refine Kd.C_drewN ?_ _) | (with_reducible refine Kd.C_drew ?_)));(case aB => exact (by repeat (first | (with_reducible first | exact HB.out | apply below_alloc | apply pw_below_drewN | apply below_drew1 | refine below_set ?_ GE104.out | refine below_set ?_ GE105.out) | exact HB.out)));(case aF => exact (fun _ _ => trivial));(case aO => exact (by (with_reducible repeat (first | apply Kd.R_alloc | apply Kd.R_drewN | apply Kd.R_drew));exact HO108.out));(case aS => exact (below_size (by repeat (first | (with_reducible first | exact HB.out | apply below_alloc | apply pw_below_drewN | apply below_drew1 | refine below_set ?_ GE104.out | refine below_set ?_ GE105.out) | exact HB.out))));(case aL => have:=LMc2.out;omega);intro v110 w9 ho hb hg hat;rw [← Ny109.out] at ho;have n0_:=Aside0.mk (blk_grown (g:=gb104) (o := .cells #[.bool a0_0, .int .u32 a0_1, .bool a0_2, .int .i64 a0_3, .slice A0_4 l0_4.length c0_4] 45 (0,0)) (by (with_reducible repeat (first | refine blk_drewN ?_ _ | refine blk_drew ?_ | refine blk_alloc ?_ _));exact BK104.out) hg (Kd.R_ne HO108.out BK104.out (by decide)));have n1_:=Aside0.mk (blk_grown (g:=gb105) (o := .cells #[.bool false, .int .u32 0, .bool false, .int .i64 0, .slice none 0 0] 45 (0,0)) (by (with_reducible repeat (first | refine blk_drewN ?_ _ | refine blk_drew ?_ | refine blk_alloc ?_ _));exact BK105.out) hg (Kd.R_ne HO108.out BK105.out (by decide)));have n2_:=Aside0.mk (hb);have n3_:=Aside0.mk (ho);clear BK104;clear BK105;clear HB;clear HO108;have BK104:=n0_;have BK105:=n1_;have HB:=n2_;have HO111:=n3_;clear n0_ n1_ n2_ n3_;clear ho hb hg hat;obtain ⟨Ao10,co10,eo10⟩:=Kd.R_slice HO111.out;subst eo10;obtain ⟨hcz11_0,hcz11_1,hcz11_2,hcz11_3,hcz11_4⟩:=bc5 BK104.out;obtain ⟨hfz11_0,hfz11_1,hfz11_2,hfz11_3,hfz11_4⟩:=bf5 BK104.out;obtain ⟨hcz12_0,hcz12_1,hcz12_2,hcz12_3,hcz12_4⟩:=bc5 BK105.out;obtain ⟨hfz12_0,hfz12_1,hfz12_2,hfz12_3,hfz12_4⟩:=bf5 BK105.out))
  refine bodyPost_ret (results_cell_row rfl _ _ gb105 45 #[.bool a0_0, .int .u32 a0_1, .bool a0_2, .int .i64 a0_3, .slice Ao10 y109.length co10] (0,0) _ rfl (by (with_reducible repeat (first | refine blk_drewN ?_ _ | refine blk_drew ?_ | refine blk_alloc ?_ _));refine blk_put (cs := #[.bool a0_0, .int .u32 a0_1, .bool a0_2, .int .i64 a0_3, .slice none 0 0]) ?_ 4 _ rfl;(with_reducible repeat (first | refine blk_drewN ?_ _ | refine blk_drew ?_ | refine blk_alloc ?_ _));refine blk_put (cs := #[.bool a0_0, .int .u32 a0_1, .bool a0_2, .int .i64 0, .slice none 0 0]) ?_ 3 _ rfl;(with_reducible repeat (first | refine blk_drewN ?_ _ | refine blk_drew ?_ | refine blk_alloc ?_ _));refine blk_put (cs := #[.bool a0_0, .int .u32 a0_1, .bool false, .int .i64 0, .slice none 0 0]) ?_ 2 _ rfl;(with_reducible repeat (first | refine blk_drewN ?_ _ | refine blk_drew ?_ | refine blk_alloc ?_ _));refine blk_put (cs := #[.bool a0_0, .int .u32 0, .bool false, .int .i64 0, .slice none 0 0]) ?_ 1 _ rfl;(with_reducible repeat (first | refine blk_drewN ?_ _ | refine blk_drew ?_ | refine blk_alloc ?_ _));refine blk_put (cs := #[.bool false, .int .u32 0, .bool false, .int .i64 0, .slice none 0 0]) ?_ 0 _ rfl;(with_reducible repeat (first | refine blk_drewN ?_ _ | refine blk_drew ?_ | refine blk_alloc ?_ _));refine blk_far ?_ NB105_104.out _;(with_reducible repeat (first | refine blk_drewN ?_ _ | refine blk_drew ?_ | refine blk_alloc ?_ _));exact BK105.out) Try.underlying45 rfl (by kernel_rfl)) rfl ?_
  exact ⟨_,by first | rfl | (simp [errW_none,errW_some] <;> rfl) | (simp [*,errW_none,errW_some] <;> rfl),by (with_reducible repeat (first | apply Kd.R_alloc | apply Kd.R_drewN | apply Kd.R_drew));exact Kd.R_mono (Kd.R_far (p:=⟨gb105,4,none⟩) (Kd.R_far (p:=⟨gb105,3,none⟩) (Kd.R_far (p:=⟨gb105,2,none⟩) (Kd.R_far (p:=⟨gb105,1,none⟩) (Kd.R_far (p:=⟨gb105,0,none⟩) (Kd.R_far (p:=⟨gb104,4,none⟩) (Kd.R_types (Kd.R_types HO111.out BK104.out (by decide)) BK105.out (by decide)) (fun _ hk => hk.1.2) (.slice Ao10 y109.length co10)) (fun _ hk => hk.2) (.bool a0_0)) (fun _ hk => hk.2) (.int .u32 a0_1)) (fun _ hk => hk.2) (.bool a0_2)) (fun _ hk => hk.2) (.int .i64 a0_3)) (fun _ hk => hk.2) (.slice Ao10 y109.length co10)) (fun _ hk => trivial),by repeat (first | (with_reducible first | exact HB.out | apply below_alloc | apply pw_below_drewN | apply below_drew1 | refine below_set ?_ GE104.out | refine below_set ?_ GE105.out) | exact HB.out)⟩
 ·rw [if_neg c2] at H
  exact absurd H (by simp)
end Go.Proofs.Ytcaefabbcjlkdaa.P
namespace Go.Proofs.Ytcaefabbcjlkdaa.P
open Go Go.RowKit Go.Proofs.YtcaefabbcjlkdaaW.PrintWords
set_option linter.unusedVariables false
theorem copyFrame_v (x : S45) (A : Option Addr) (c : Nat) (w : World) (hr : (Kd.int .u8).C w A x.f4.length x.f4) (hc : x.f4.length ≤ c) (hl : x.f4.length ≤ 10000000) :
  Calls Try.prog 111 #[.agg #[.bool x.f0, .int .u32 x.f1, .bool x.f2, .int .i64 x.f3, .slice A x.f4.length c]] w fun e w' =>
   ∃ A' c',e = .returned (.agg #[.bool x.f0, .int .u32 x.f1, .bool x.f2, .int .i64 x.f3, .slice A' x.f4.length c']) ∧ (Kd.int .u8).R 5 w' w.heap.size (fun k => w.heap.size ≤ k) (.slice A' x.f4.length c') x.f4 ∧ Below w.heap.size w w':=by
 refine (impl_copyFrame.calls x.f0 x.f1 x.f2 x.f3 A c x.f4 x.f0 x.f1 x.f2 x.f3 x.f4 w hr hc (by unfold impl_copyFrame.f;simp;omega)).mono ?_
 rintro e w' ⟨v,rfl,h,hb⟩
 obtain ⟨A',c',rfl⟩:=Kd.R_slice h
 exact ⟨A',c',rfl,Kd.R_mono (Kd.R_bound h) (fun k hk => hk.2.1),hb⟩
end Go.Proofs.Ytcaefabbcjlkdaa.P
