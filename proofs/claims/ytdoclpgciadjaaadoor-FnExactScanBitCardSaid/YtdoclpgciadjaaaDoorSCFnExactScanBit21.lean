/- Texts of the proof of CFnExactScanBit, joined. -/
import Derived.Test.YtdoclpgciadjaaaDoorProg
import Derived.Below
import Derived.Deep.Draws
import Derived.Deep.AppendLies
import Derived.Maps.AppendAt
import Derived.OwnWalk
import Derived.Laws.BytesArg
import Derived.Laws.MakeOwn
import Derived.Laws.OwnMore
import Derived.Deep.OwnRows
import Derived.Tactics
import Derived.Lib.ConvBytes
import Derived.Laws.Slices
import Derived.WalkKit
import Derived.KernelRfl
import Derived.RowKit3
import Derived.Deep.LoopGhost
import Derived.Deep.QuietTactic
import Derived.BigQuiet
import Derived.WideLaws
import Derived.Deep.DeepCutAuto
import Derived.Deep.CutBlock
import Derived.Deep.RegionHeld3
import Derived.Laws.Rows
import Derived.Lib.AppendStr
import Derived.ArgAppend
import Derived.Laws.IdiomCopy
import Derived.OrdersHeld
import Derived.Laws.BitsLemmas
import Derived.RowKit
import Derived.Test.YtdoclpgciadjaaaDoorSCFnExactScanBit0
import Derived.Test.YtdoclpgciadjaaaDoorSCFnExactScanBit1
import Derived.Test.YtdoclpgciadjaaaDoorSCFnExactScanBit2
import Derived.Test.YtdoclpgciadjaaaDoorSCFnExactScanBit3
import Derived.Test.YtdoclpgciadjaaaDoorSCFnExactScanBit4
import Derived.Test.YtdoclpgciadjaaaDoorSCFnExactScanBit5
import Derived.Test.YtdoclpgciadjaaaDoorSCFnExactScanBit6
import Derived.Test.YtdoclpgciadjaaaDoorSCFnExactScanBit7
import Derived.Test.YtdoclpgciadjaaaDoorSCFnExactScanBit8
import Derived.Test.YtdoclpgciadjaaaDoorSCFnExactScanBit9
import Derived.Test.YtdoclpgciadjaaaDoorSCFnExactScanBit10
import Derived.Test.YtdoclpgciadjaaaDoorSCFnExactScanBit11
import Derived.Test.YtdoclpgciadjaaaDoorSCFnExactScanBit12
import Derived.Test.YtdoclpgciadjaaaDoorSCFnExactScanBit13
import Derived.Test.YtdoclpgciadjaaaDoorSCFnExactScanBit14
import Derived.Test.YtdoclpgciadjaaaDoorSCFnExactScanBit15
import Derived.Test.YtdoclpgciadjaaaDoorSCFnExactScanBit16
import Derived.Test.YtdoclpgciadjaaaDoorSCFnExactScanBit17
import Derived.Test.YtdoclpgciadjaaaDoorSCFnExactScanBit18
import Derived.Test.YtdoclpgciadjaaaDoorSCFnExactScanBit19
import Derived.Test.YtdoclpgciadjaaaDoorSCFnExactScanBit20
import Derived.Lib.Hide
import Derived.Laws.RangeAny
import Derived.Lib.OthersKept
import Derived.Test.YtdoclpgciadjaaaDoorRows
import Derived.ProofKit
import Derived.LaidMore
import Derived.OpenShut
import Derived.ChangeVars
import Derived.Stop.Joined
namespace Go.Proofs.YtdoclpgciadjaaaDoor.P
open Go.RowKit Go.Proofs.YtdoclpgciadjaaaDoorW.PrintWords Go.Proofs.YtdoclpgciadjaaaDoorW.PrintLast Go.Proofs.YtdoclpgciadjaaaDoorW.PrintMore
set_option linter.unusedVariables false
set_option linter.unusedSimpArgs false
def errW : Option Int → Value
 | none => .nilIface
 | some c => .iface 0 (.int .i64 c)
theorem errW_none : errW none = .nilIface:=rfl
theorem errW_some (c : Int) : errW (some c) = .iface 0 (.int .i64 c):=rfl
theorem info5 : (Tryd.prog.info? 5).map (fun i => (i.zero,i.size,i.bytes)) = some (some (.int .u8 0),1,1):=by kernel_rfl
structure S25 where
 f0 : Bool
 f1 : Int
 f2 : Bool
 f3 : Int
 f4 : (List Int)
def k25 : Kd S25:=Kd.iso (Kd.pair Kd.bool (Kd.pair (Kd.int .u32) (Kd.pair Kd.bool (Kd.pair (Kd.int .i64) (Kd.slice 5 (Kd.int .u8)))))) (fun x : S25 => (x.f0,x.f1,x.f2,x.f3,x.f4))
theorem k25_open {w : World} {x : S25} {cs : List Value} (h : k25.K w x cs) : ∃ A4 c4,cs = [.bool x.f0, .int .u32 x.f1, .bool x.f2, .int .i64 x.f3, .slice A4 x.f4.length c4] ∧ x.f4.length ≤ c4 ∧ (Kd.int .u8).C w A4 x.f4.length x.f4:=by
 obtain ⟨_,_,rfl,rfl,⟨_,_,rfl,rfl,⟨_,_,rfl,rfl,⟨_,_,rfl,rfl,⟨A4,c4,rfl,l4,g4⟩⟩⟩⟩⟩:=h
 exact ⟨A4,c4,rfl,l4,g4⟩
structure S27 where
 f0 : Int
 f1 : Int
 f2 : Int
 f3 : Int
 f4 : Int
 f5 : Int
 f6 : S25
def k27 : Kd S27:=Kd.iso (Kd.pair (Kd.int .i64) (Kd.pair (Kd.int .i64) (Kd.pair (Kd.int .i64) (Kd.pair (Kd.int .i64) (Kd.pair (Kd.int .i64) (Kd.pair (Kd.int .i64) k25)))))) (fun x : S27 => (x.f0,x.f1,x.f2,x.f3,x.f4,x.f5,x.f6))
theorem k27_open {w : World} {x : S27} {cs : List Value} (h : k27.K w x cs) : ∃ A10 c10,cs = [.int .i64 x.f0, .int .i64 x.f1, .int .i64 x.f2, .int .i64 x.f3, .int .i64 x.f4, .int .i64 x.f5, .bool x.f6.f0, .int .u32 x.f6.f1, .bool x.f6.f2, .int .i64 x.f6.f3, .slice A10 x.f6.f4.length c10] ∧ x.f6.f4.length ≤ c10 ∧ (Kd.int .u8).C w A10 x.f6.f4.length x.f6.f4:=by
 obtain ⟨_,_,rfl,rfl,⟨_,_,rfl,rfl,⟨_,_,rfl,rfl,⟨_,_,rfl,rfl,⟨_,_,rfl,rfl,⟨_,_,rfl,rfl,s6⟩⟩⟩⟩⟩⟩:=h
 obtain ⟨A10,c10,rfl,l10,g10⟩:=k25_open s6
 exact ⟨A10,c10,rfl,l10,g10⟩
end Go.Proofs.YtdoclpgciadjaaaDoor.P

namespace Go.Proofs.YtdoclpgciadjaaaDoor.P
open Go Go.RowKit Go.Proofs.YtdoclpgciadjaaaDoorW.PrintWords
set_option linter.unusedVariables false
def crcI (r b : Int) : Int:=if (Go.bits .xor .i64 (Go.bits .and .i64 (r / 16384) 1) b) = 1 then Go.bits .xor .i64 (Go.bits .and .i64 (wrap64 (r * 2)) 32767) 17817 else Go.bits .and .i64 (wrap64 (r * 2)) 32767
def destuffL : List Int → Int → Int → Int → List Int → List Int × Int
 | [],_,_,_,out => (out, -1)
 | c :: l,i,run,last,out => if run = 5 then (if c = last then (out,i) else destuffL l (i + 1) 1 c out) else destuffL l (i + 1) (if c = last then run + 1 else 1) c (out ++ [c])
theorem drop_cons (s : ByteArray) (pos : Nat) (hp : pos < s.size) {b : Nat} (hb : (s[pos]'hp).toNat = b) : (bytesOf s).drop pos = (b : Int) :: (bytesOf s).drop (pos + 1):=by
 have hl : pos < (bytesOf s).length:=by rw [bytesOf_length];exact hp
 rw [List.drop_eq_getElem_cons hl]
 congr 1
 have h2 : (bytesOf s)[pos]? = some (b : Int):=by
  unfold bytesOf
  rw [List.getElem?_map,Array.getElem?_toList,Array.getElem?_eq_getElem (show pos < s.data.size from hp), ← hb]
  rfl
 rw [List.getElem?_eq_getElem hl] at h2
 exact Option.some.inj h2
theorem drop_end (s : ByteArray) (pos : Nat) (hp : ¬ pos < s.size) : (bytesOf s).drop pos = []:=List.drop_eq_nil_of_le (by rw [bytesOf_length];omega)
structure DesAt (s : ByteArray) (R : List Int × Int) (pos : Nat) (out : List Int) (run last : Int) : Prop where
 eq : destuffL ((bytesOf s).drop pos) pos run last out = R
 len : out.length ≤ pos
 lo : 0 ≤ run
 hi : run ≤ 5
theorem DesAt.zero (s : ByteArray) : DesAt s (destuffL (bytesOf s) 0 0 120 []) 0 [] 0 120:=⟨by rw [List.drop_zero];rfl,by simp,by omega,by omega⟩
theorem DesAt.step {s : ByteArray} {R : List Int × Int} {pos : Nat} {out : List Int} {run last : Int} (h : DesAt s R pos out run last) (hp : pos < s.size) {b : Nat} (hb : (s[pos]'hp).toNat = b) (hr : run ≠ 5) : DesAt s R (pos + 1) (out ++ [(b : Int)]) (if (b : Int) = last then run + 1 else 1) b:=by
 have e:=h.eq
 have h1:=h.len;have h2:=h.lo;have h3:=h.hi
 rw [drop_cons s pos hp hb,destuffL,if_neg hr] at e
 refine ⟨e,by rw [List.length_append];simp;omega, ?_, ?_⟩
 ·split <;> omega
 ·split <;> omega
theorem DesAt.skip {s : ByteArray} {R : List Int × Int} {pos : Nat} {out : List Int} {last : Int} (h : DesAt s R pos out 5 last) (hp : pos < s.size) {b : Nat} (hb : (s[pos]'hp).toNat = b) (hl : (b : Int) ≠ last) : DesAt s R (pos + 1) out 1 b:=by
 have e:=h.eq
 have h1:=h.len
 rw [drop_cons s pos hp hb,destuffL,if_pos rfl,if_neg hl] at e
 exact ⟨e,by omega,by omega,by omega⟩
theorem DesAt.over {s : ByteArray} {R : List Int × Int} {pos : Nat} {out : List Int} {run last : Int} (h : DesAt s R pos out run last) (hp : ¬ pos < s.size) : R = (out, -1):=by
 have e:=h.eq
 rw [drop_end s pos hp,destuffL] at e
 exact e.symm
end Go.Proofs.YtdoclpgciadjaaaDoor.P

namespace Go.Proofs.YtdoclpgciadjaaaDoor.P
open Go Go.RowKit Go.Proofs.YtdoclpgciadjaaaDoorW.PrintWords
set_option linter.unusedVariables false
theorem R_empty {α : Type} (d : Kd α) (w : World) (e base : Nat) (hb : base ≤ w.heap.size) (ok : Nat → Prop) (hok : ok w.heap.size) : d.R e (w.alloc (.cells #[] e)) base ok (.slice (some ⟨w.heap.size,0,none⟩) 0 0) []:=by
 refine ⟨fun k hk => by (obtain rfl : w.heap.size = k:=Option.some.inj hk);exact hok, [],⟨by simp, .inr ⟨w.heap.size,0, #[],rfl,hb, ?_,Nat.le_refl _,by simp [maxLen],by simp,by simp⟩⟩,Reps.none _ _⟩
 exact heap_alloc_new w _
end Go.Proofs.YtdoclpgciadjaaaDoor.P

namespace Go.Proofs.YtdoclpgciadjaaaDoor.P
open Go Go.RowKit Go.Proofs.YtdoclpgciadjaaaDoorW.PrintWords
set_option linter.unusedVariables false
def rowsL : List Int := [0,0,1,2,11,3,1,4,1,5,18,6,1,7,1,8,4,9,0,10,15,11,1,12,1,13,1,14,7,15]
structure LaidRows (w : World) : Prop where
 pos : 0 < w.heap.size
 at_ : ∀ j : Nat,j < 30 → w.cell? ⟨0,j,none⟩ = some (.int .i64 (rowsL.getD j 0))
theorem LaidRows.below {w w' : World} {B : Nat} (h : LaidRows w) (hb : Below B w w') (hB : w.heap.size ≤ B) : LaidRows w' :=
 ⟨Nat.lt_of_lt_of_le h.pos hb.size,fun j hj => (hb.cell (by have:=h.pos;show 0 < B;omega)).trans (h.at_ j hj)⟩
theorem LaidRows.next {w w' : World} (h : LaidRows w) (hb : Below w.heap.size w w') : LaidRows w':=h.below hb (Nat.le_refl _)
theorem LaidRows.alloc {w : World} (h : LaidRows w) (o : Obj) : LaidRows (w.alloc o):=h.next ((Below.refl _ _).alloc (Nat.le_refl _) _)
theorem LaidRows.drewN {w : World} (h : LaidRows w) (n : Nat) : LaidRows (w.drewN n):=⟨h.pos,h.at_⟩
theorem LaidRows.drew {w : World} (h : LaidRows w) : LaidRows w.drew:=⟨h.pos,h.at_⟩
end Go.Proofs.YtdoclpgciadjaaaDoor.P

namespace Go.Proofs.YtdoclpgciadjaaaDoor
open Go.ChangeShapes Go.WideShapes Go.ChangeAt Go.WideElems Go.RowKit Go.Proofs.YtdoclpgciadjaaaDoor.P
set_option linter.unusedVariables false
theorem gRows : Tryd.prog.globalNamed "loop.example/s01647/impl.rows" = some 0:=by kernel_rfl
theorem tRows : (Tryd.prog.globals[0]?).map (·.type) = some 76:=by kernel_rfl
theorem rowsD_at {H : Type} : ∀ (i : Nat),i < 15 → ∀ l : List (DataW H),Rows.laid_loop_example_s01647_impl_rows = DataW.agg l → l[i]? = some (.agg [.lit (.int .i64 (rowsL.getD (i * 2) 0)), .lit (.int .i64 (rowsL.getD (i * 2 + 1) 0))]):=by
 intro i hi l hl
 unfold Rows.laid_loop_example_s01647_impl_rows at hl
 injection hl with hl
 subst hl
 match i,hi with
 | 0,_ => rfl
 | 1,_ => rfl
 | 2,_ => rfl
 | 3,_ => rfl
 | 4,_ => rfl
 | 5,_ => rfl
 | 6,_ => rfl
 | 7,_ => rfl
 | 8,_ => rfl
 | 9,_ => rfl
 | 10,_ => rfl
 | 11,_ => rfl
 | 12,_ => rfl
 | 13,_ => rfl
 | 14,_ => rfl
theorem rows_cells {H : Type} {enc : TypeId × Value → H} {w : World} {sp : Nat → Bool} {held : Bool} {fuel : Nat} {cs : List Value} {p : List MemPlace} (h : DataW.trod enc Tryd.prog w 0 sp held fuel 76 cs = some (Rows.laid_loop_example_s01647_impl_rows,p)) :
  ∀ j : Nat,j < 30 → cs[j]? = some (.int .i64 (rowsL.getD j 0)):=by
 obtain ⟨xs,m,rfl,hx,hlen,hn,hel⟩:=DataW.trod_array Tryd.underlying76 h
 have c2 : Tryd.prog.cellsOf 75 = 2:=by kernel_rfl
 have c1 : Tryd.prog.cellsOf 3 = 1:=by kernel_rfl
 simp only [Prod.mk.injEq] at hx
 have key : ∀ i : Nat,i < 15 → cs[i * 2]? = some (.int .i64 (rowsL.getD (i * 2) 0)) ∧ cs[i * 2 + 1]? = some (.int .i64 (rowsL.getD (i * 2 + 1) 0)):=by
  intro i hi
  have hd:=rowsD_at i hi _ hx.1
  rw [List.getElem?_map] at hd
  obtain ⟨x,hxi,hxd⟩:=Option.map_eq_some_iff.1 hd
  have he:=hel i hi
  rw [hxi,c2] at he
  obtain ⟨y0,y1,n,e0,_,t0,t1⟩:=trod_struct2 Tryd.underlying75 he
  rw [e0] at hxd
  simp only [DataW.agg.injEq,List.cons.injEq,and_true] at hxd
  obtain ⟨a,ea,ya,_⟩:=DataW.trod_int Tryd.underlying3 t0
  obtain ⟨b,eb,yb,_⟩:=DataW.trod_int Tryd.underlying3 t1
  rw [ya,yb] at hxd
  simp only [DataW.lit.injEq,Lit.int.injEq,true_and] at hxd
  have hc1 : Tryd.prog.cellsOf 3 = 1:=c1
  simp only [] at ea eb
  rw [hc1] at ea eb
  have e1:=congrArg (fun l => l[0]?) ea
  have e2:=congrArg (fun l => l[0]?) eb
  simp only [List.getElem?_take,List.getElem?_drop] at e1 e2
  simp at e1 e2
  rw [hxd.1] at e1
  rw [hxd.2] at e2
  exact ⟨e1,e2⟩
 intro j hj
 obtain ⟨i,hi | hi⟩ : ∃ i,j = i * 2 ∨ j = i * 2 + 1:=⟨j / 2,by omega⟩
 ·rw [hi];exact (key i (by omega)).1
 ·rw [hi];exact (key i (by omega)).2
theorem laid_of_var {H : Type} {enc : TypeId × Value → H} {w : World} {sp : Nat → Bool} {held : Bool} {fuel : Nat} {cs : Array Value} {p : List MemPlace} (hv : w.var? Tryd.prog "loop.example/s01647/impl.rows" = some cs) (h : DataW.trod enc Tryd.prog w 0 sp held fuel 76 cs.toList = some (Rows.laid_loop_example_s01647_impl_rows,p)) : LaidRows w:=by
 have hc : ∀ j : Nat,j < 30 → w.cell? ⟨0,j,none⟩ = some (.int .i64 (rowsL.getD j 0)):=fun j hj => by
  rw [World.var?_cell gRows hv j, ← Array.getElem?_toList]
  exact rows_cells h j hj
 refine ⟨?_,hc⟩
 have h0:=hc 0 (by decide)
 unfold World.cell? at h0
 by_cases hz : 0 < w.heap.size
 ·exact hz
 ·rw [Array.getElem?_eq_none (by omega)] at h0
  cases h0
end Go.Proofs.YtdoclpgciadjaaaDoor

namespace Go.Proofs.YtdoclpgciadjaaaDoor.P
open Go.RowKit Go.Proofs.YtdoclpgciadjaaaDoorW.PrintWords Go.Proofs.YtdoclpgciadjaaaDoorW.PrintLast Go.Proofs.YtdoclpgciadjaaaDoorW.PrintMore
set_option linter.unusedVariables false
set_option linter.unusedSimpArgs false
def laws_szByteS.f (l0 : List Int) (a1 : Int) : Option (Int):=if (wrap64 (a1 - (l0.length : Int))) < 0 then (some (-1)) else (some (wrap64 (a1 - (l0.length : Int))))
set_option maxHeartbeats 8000000 in
set_option maxRecDepth 100000 in
theorem laws_szByteS.calls (A0 : Option Addr) (c0 : Nat) (l0 : List Int) (a1 : Int) (r : Int) (w : World) (hr0 : Kd.C (Kd.int .u8) w A0 l0.length l0) (hc0 : l0.length ≤ c0) (h : laws_szByteS.f l0 a1 = some r) :
  Calls Tryd.prog 48 #[.slice A0 l0.length c0, .int .i64 a1] w fun e w' => e = .returned (.int .i64 r) ∧ Drawn0 w w':=by
 have HR0:=Aside0.mk hr0
 have HC0:=Aside0.mk hc0
 clear hr0 hc0
 have H : (if (wrap64 (a1 - (l0.length : Int))) < 0 then (some (-1)) else (some (wrap64 (a1 - (l0.length : Int))))) = some r:=h
 clear h
 by_cases c3 : (wrap64 (a1 - (l0.length : Int))) < 0
 ·rw [if_pos c3] at H
  have c3b0 : decide ((wrap64 (a1 - (l0.length : Int))) < 0) = true:=decide_eq_true c3
  clear c3
  obtain rfl:=Option.some.inj H
  go_enter Tryd.func48,Tryd.ntmps48
  go_wp2
  go_ret
  exact ⟨by first | rfl | (simp;done) | (simp [*];done),by repeat (first | exact Drawn0.refl _ | apply Drawn0.step)⟩
 ·rw [if_neg c3] at H
  have c3b0 : decide ((wrap64 (a1 - (l0.length : Int))) < 0) = false:=decide_eq_false c3
  clear c3
  obtain rfl:=Option.some.inj H
  go_enter Tryd.func48,Tryd.ntmps48
  go_wp2
  go_ret
  exact ⟨by first | rfl | (simp;done) | (simp [*];done),by repeat (first | exact Drawn0.refl _ | apply Drawn0.step)⟩
end Go.Proofs.YtdoclpgciadjaaaDoor.P

namespace Go.Proofs.YtdoclpgciadjaaaDoor.P
open Go.RowKit Go.Proofs.YtdoclpgciadjaaaDoorW.PrintWords Go.Proofs.YtdoclpgciadjaaaDoorW.PrintLast Go.Proofs.YtdoclpgciadjaaaDoorW.PrintMore
set_option linter.unusedVariables false
set_option linter.unusedSimpArgs false
def laws_toByteS.l0 : Nat → List Int → List Int → Int → Option (List Int)
 | 0,_,_,_ => none
 | k + 1,x0,x3,x4 => if x4 < (x0.length : Int) then (if 0 ≤ x4 then (if x4 < (x3.length : Int) then (laws_toByteS.l0 k x0 (x3.set (x4 : Int).toNat (rd x0 x4)) (wrap64 (x4 + 1))) else (none)) else (none)) else (some x3)
def laws_toByteS.f (k : Nat) (l0 : List Int) : Option (List Int):=if 0 ≤ (l0.length : Int) then (if ((l0.length : Int) : Int).toNat ≤ 281474976710656 then (laws_toByteS.l0 k l0 (List.replicate ((l0.length : Int) : Int).toNat 0) 0) else (none)) else (none)
set_option maxHeartbeats 8000000 in
set_option maxRecDepth 100000 in
theorem laws_toByteS.calls (k : Nat) (A0 : Option Addr) (c0 : Nat) (l0 : List Int) (r : List Int) (w : World) (hr0 : Kd.C (Kd.int .u8) w A0 l0.length l0) (hc0 : l0.length ≤ c0) (h : laws_toByteS.f k l0 = some r) :
  Calls Tryd.prog 50 #[.slice A0 l0.length c0] w fun e w' => ∃ v0_ : Value,e = .returned (v0_) ∧ Kd.R (Kd.int .u8) 5 w' w.heap.size (fun _ => True) v0_ r ∧ Below w.heap.size w w':=by
 have HR0:=Aside0.mk hr0
 have HC0:=Aside0.mk hc0
 clear hr0 hc0
 have HB:=Aside0.mk (Below.refl w.heap.size w)
 have H : (if 0 ≤ (l0.length : Int) then (if ((l0.length : Int) : Int).toNat ≤ 281474976710656 then (laws_toByteS.l0 k l0 (List.replicate ((l0.length : Int) : Int).toNat 0) 0) else (none)) else (none)) = some r:=h
 clear h
 by_cases c2 : 0 ≤ (l0.length : Int)
 ·rw [if_pos c2] at H
  have c2b0:=eq_true c2
  have c2b1 : decide (0 ≤ (l0.length : Int)) = true:=decide_eq_true c2
  clear c2
  by_cases c3 : ((l0.length : Int) : Int).toNat ≤ 281474976710656
  ·rw [if_pos c3] at H
   have c3b0:=eq_true c3
   have c3b1 : decide (((l0.length : Int) : Int).toNat ≤ 281474976710656) = true:=decide_eq_true c3
   clear c3
   obtain ⟨y128,hy128⟩ : ∃ y_ : List Int,y_ = (List.replicate ((l0.length : Int) : Int).toNat 0):=⟨_,rfl⟩
   replace H : (laws_toByteS.l0 k l0 y128 0) = some r:=by first | (rw [hy128];with_reducible exact H) | (have H2_:=(Option.bind_some _ _).symm.trans H;rw [hy128];with_reducible exact H2_) | (have H2_:=(Option.bind_some _ _).symm.trans H;with_reducible exact H2_) | with_reducible exact H | (rw [hy128];exact H) | exact H
   have Ny128:=Aside0.mk hy128
   clear hy128
   have H':=Aside0.mk H
   clear H
   go_enter Tryd.func50,Tryd.ntmps50
   go_wp2_with (first | ((with_reducible refine gate_dst (N:=7) rfl ?_);refine Kd.R_make (Kd.int .u8) _ 5 rfl (N:=7) rfl 23 _ _ rfl (l0.length : Int) rfl rfl Tryd.underlying23 (.int .u8 0) 1 info5 rfl (by decide) (by omega) 0 (ok:=fun _ => True) (okp:=fun _ => True) rfl (fun _ hk => hk) trivial (of_decide_eq_true (by first | (with_reducible assumption) | assumption)) (Nat.le_trans (Nat.mul_le_mul_right _ (of_decide_eq_true (by first | (with_reducible assumption) | assumption) : (l0.length : Int).toNat ≤ 281474976710656)) (by omega)) (Below.refl _ _) (Nat.le_refl _) ?_;intro v129 w4 ho5 hb hg_ hnew_;clear hg_ hnew_;(first | rw [← Ny128.out] at ho5 | (simp only [Int.reduceToNat] at ho5;rw [← Ny128.out] at ho5));have n0_:=Aside0.mk (Kd.R_lower ho5 (below_size (by repeat (first | (with_reducible first | exact HB.out | apply below_alloc | apply pw_below_drewN | apply below_drew1) | exact HB.out))));have n1_:=Aside0.mk (below_step (by repeat (first | (with_reducible first | exact HB.out | apply below_alloc | apply pw_below_drewN | apply below_drew1) | exact HB.out)) hb);clear HB;have HO130:=n0_;have HB:=n1_;clear n0_ n1_;clear hb ho5))
   go_loopg [4] k (fun kq v4 w' => ∃ (x3_1 : List Int) (x4_1 : Int),v4 = .int .i64 x4_1 ∧ Aside0 (laws_toByteS.l0 kq l0 x3_1 x4_1 = some r) ∧ Aside0 (kq ≤ k) ∧ Aside0 (Kd.R (Kd.int .u8) 5 w' w.heap.size (fun _ => True) v129 x3_1) ∧ Aside0 (Below w.heap.size w w'))
   case atStart => exact ⟨(y128),(0),(by first | rfl | (simp;done) | (simp [*];done)),H',⟨Nat.le_refl _⟩,⟨by (with_reducible repeat (first | apply Kd.R_alloc | apply Kd.R_drewN | apply Kd.R_drew));exact HO130.out⟩,⟨by repeat (first | (with_reducible first | exact HB.out | apply below_alloc | apply pw_below_drewN | apply below_drew1) | exact HB.out)⟩⟩
   case round =>
    clear H'
    try clear c2
    try clear c2b0
    try clear c2b1
    try clear p2
    try clear c3
    try clear c3b0
    try clear c3b1
    try clear c5
    obtain ⟨x3_1,x4_1,rfl,HA,HK1,HO_3,HB⟩:=hrel
    cases gk with
    | zero => exact absurd HA.out (by simp [laws_toByteS.l0])
    | succ k1 =>
     have H:=HA.out
     clear HA
     simp only [laws_toByteS.l0] at H
     by_cases c6 : x4_1 < (l0.length : Int)
     ·rw [if_pos c6] at H
      have c6b0 : decide (x4_1 < (l0.length : Int)) = true:=decide_eq_true c6
      clear c6
      by_cases c7 : 0 ≤ x4_1
      ·rw [if_pos c7] at H
       have c7b0 : decide (0 ≤ x4_1) = true:=decide_eq_true c7
       clear c7
       by_cases c8 : x4_1 < (x3_1.length : Int)
       ·rw [if_pos c8] at H
        have c8b0 : decide (x4_1 < (x3_1.length : Int)) = true:=decide_eq_true c8
        clear c8
        obtain ⟨y132,hy132⟩ : ∃ y_ : List Int,y_ = (x3_1.set (x4_1 : Int).toNat (rd l0 x4_1)):=⟨_,rfl⟩
        replace H : (laws_toByteS.l0 k1 l0 y132 (wrap64 (x4_1 + 1))) = some r:=by first | (rw [hy132];with_reducible exact H) | (have H2_:=(Option.bind_some _ _).symm.trans H;rw [hy132];with_reducible exact H2_) | (have H2_:=(Option.bind_some _ _).symm.trans H;with_reducible exact H2_) | with_reducible exact H | (rw [hy132];exact H) | exact H
        have Ny132:=Aside0.mk hy132
        clear hy132
        have H':=Aside0.mk H
        clear H
        have p131 : 0 ≤ (x4_1 : Int):=of_decide_eq_true (by first | (with_reducible assumption) | assumption)
        have q131 : x4_1 < (l0.length : Int):=of_decide_eq_true (by first | (with_reducible assumption) | assumption)
        obtain ⟨ad131,e131,hx131_0⟩:=Kd.at_int HR0.out x4_1 p131 q131
        cases e131
        replace hx131_0:=(HB.out.cell (World.block_lt_of_cell? w _ hx131_0)).trans hx131_0
        replace p131:=eq_true p131
        replace q131:=eq_true q131
        have p9 : 0 ≤ (x4_1 : Int):=of_decide_eq_true (by first | (with_reducible assumption) | assumption)
        have q9 : (x4_1 : Int) < ((x3_1.length : Int) : Int):=of_decide_eq_true (by first | (with_reducible assumption) | assumption)
        obtain ⟨go9,co9,eo9,gb9,gl9,cl9,HG9⟩:=Kd.R_form HO_3.out (by omega)
        (first | cases eo9 | (injection eo9 with ea_ en_ ec_;(first | subst ea_ | (injection ea_ with ea_;subst ea_));subst ec_;clear en_))
        have GB9:=Aside0.mk gb9
        have GG9:=Aside0.mk HG9
        clear gb9 gl9 HG9
        obtain ⟨hx9_0,hf9_0⟩:=Kd.R_celln 0 HO_3.out (x4_1 : Int) p9 q9
        replace p9:=eq_true p9
        replace q9:=eq_true q9
        have HP10:=Kd.R_putg HO_3.out (x4_1 : Int) (rd l0 x4_1)
        go_wp2_with (first | ((with_reducible refine gate_store (t:=5) (p:=20) rfl ?_);refine store_event (t:=5) (p:=20) (v := ?vo_w11) (w1:=(wr.setCell ⟨go9,(x4_1 : Int).toNat,none⟩ (.int .u8 (rd l0 x4_1)))) ?hg ?ho ?hn ?hr ?_;(case ho => rfl);(case hg => rfl);(case hn => rfl);(case hr => first | (go_simp;done) | (go_simp;rfl));intro w11 hw;have hg : wr.grownBy w11 (some go9):=(by rw [hw];exact HP10.2);have hp_ : Kd.R (Kd.int .u8) 5 w11 w.heap.size (fun _ => True) (.slice (some ⟨go9,0,none⟩) x3_1.length co9) y132:=(by rw [hw,Ny132.out];exact HP10.1);clear HP10;have n0_:=Aside0.mk (hp_);have n1_:=Aside0.mk ((by rw [hw];exact below_set (HB.out) GB9.out : Below w.heap.size w w11));clear HO_3;clear HB;have HO_3:=n0_;have HB:=n1_;clear n0_ n1_;clear hg hw hp_))
        go_roundg k1
        case measure => have:=HK1.out;omega
        case rel => exact ⟨(y132),(wrap64 (x4_1 + 1)),(by first | rfl | (simp;done) | (simp [*];done)),H',⟨by have:=HK1.out;omega⟩,⟨by (with_reducible repeat (first | apply Kd.R_alloc | apply Kd.R_drewN | apply Kd.R_drew));exact HO_3.out⟩,⟨by repeat (first | (with_reducible first | exact HB.out | apply below_alloc | apply pw_below_drewN | apply below_drew1) | exact HB.out)⟩⟩
       ·rw [if_neg c8] at H
        exact absurd H (by simp)
      ·rw [if_neg c7] at H
       exact absurd H (by simp)
     ·rw [if_neg c6] at H
      have c6b0 : decide (x4_1 < (l0.length : Int)) = false:=decide_eq_false c6
      clear c6
      obtain rfl:=Option.some.inj H
      go_wp2
      go_ret
      exact ⟨_,by first | rfl | (simp [errW_none,errW_some] <;> rfl) | (simp [*,errW_none,errW_some] <;> rfl),by (with_reducible repeat (first | apply Kd.R_alloc | apply Kd.R_drewN | apply Kd.R_drew));exact HO_3.out,by repeat (first | (with_reducible first | exact HB.out | apply below_alloc | apply pw_below_drewN | apply below_drew1) | exact HB.out)⟩
  ·rw [if_neg c3] at H
   exact absurd H (by simp)
 ·rw [if_neg c2] at H
  exact absurd H (by simp)
end Go.Proofs.YtdoclpgciadjaaaDoor.P

namespace Go.Proofs.YtdoclpgciadjaaaDoor.P
open Go.RowKit Go.Proofs.YtdoclpgciadjaaaDoorW.PrintWords Go.Proofs.YtdoclpgciadjaaaDoorW.PrintLast Go.Proofs.YtdoclpgciadjaaaDoorW.PrintMore
set_option linter.unusedVariables false
set_option linter.unusedSimpArgs false
def laws_eqByteS.l0 : Nat → List Int → List Int → Int → Option (Bool)
 | 0,_,_,_ => none
 | k + 1,x0,x1,x5 => if x5 < (x0.length : Int) then (if 0 ≤ x5 then (if x5 < (x1.length : Int) then (if (rd x0 x5) = (rd x1 x5) then (laws_eqByteS.l0 k x0 x1 (wrap64 (x5 + 1))) else (some false)) else (none)) else (none)) else (some true)
def laws_eqByteS.f (k : Nat) (l0 : List Int) (l1 : List Int) : Option (Bool):=if (l0.length : Int) = (l1.length : Int) then (laws_eqByteS.l0 k l0 l1 0) else (some false)
set_option maxHeartbeats 8000000 in
set_option maxRecDepth 100000 in
theorem laws_eqByteS.calls (k : Nat) (A0 : Option Addr) (c0 : Nat) (l0 : List Int) (A1 : Option Addr) (c1 : Nat) (l1 : List Int) (r : Bool) (w : World) (hr0 : Kd.C (Kd.int .u8) w A0 l0.length l0) (hc0 : l0.length ≤ c0) (hr1 : Kd.C (Kd.int .u8) w A1 l1.length l1) (hc1 : l1.length ≤ c1) (h : laws_eqByteS.f k l0 l1 = some r) :
  Calls Tryd.prog 51 #[.slice A0 l0.length c0, .slice A1 l1.length c1] w fun e w' => e = .returned (.bool r) ∧ Drawn0 w w':=by
 have HR0:=Aside0.mk hr0
 have HC0:=Aside0.mk hc0
 clear hr0 hc0
 have HR1:=Aside0.mk hr1
 have HC1:=Aside0.mk hc1
 clear hr1 hc1
 have H : (if (l0.length : Int) = (l1.length : Int) then (laws_eqByteS.l0 k l0 l1 0) else (some false)) = some r:=h
 clear h
 by_cases c3 : (l0.length : Int) = (l1.length : Int)
 ·rw [if_pos c3] at H
  have c3b0 : ((l0.length : Int) == (l1.length : Int)) = true:=beq_iff_eq.mpr c3
  have c3b1 : ((l0.length : Int) != (l1.length : Int)) = false:=bne_eq_false_iff_eq.mpr c3
  have c3b2 : (l0.length == l1.length) = true:=by first | simpa using c3 | (simp at c3 ⊢;omega)
  clear c3
  have H':=Aside0.mk H
  clear H
  go_enter Tryd.func51,Tryd.ntmps51
  go_wp2
  repeat (go_quiet (fail);try go_wp2)
  go_loopg [5] k (fun kq v5 w' => ∃ (x5_1 : Int),v5 = .int .i64 x5_1 ∧ Aside0 (laws_eqByteS.l0 kq l0 l1 x5_1 = some r) ∧ Aside0 (kq ≤ k) ∧ Drawn0 w w')
  case atStart => exact ⟨(0),(by first | rfl | (simp;done) | (simp [*];done)),H',⟨Nat.le_refl _⟩,by repeat (first | exact Drawn0.refl _ | apply Drawn0.step)⟩
  case round =>
   clear H'
   try clear c1
   try clear p2
   try clear c3
   try clear c3b0
   try clear c3b1
   try clear c3b2
   obtain ⟨x5_1,rfl,HA,HK1,⟨m1,rfl⟩⟩:=hrel
   cases gk with
   | zero => exact absurd HA.out (by simp [laws_eqByteS.l0])
   | succ k1 =>
    have H:=HA.out
    clear HA
    simp only [laws_eqByteS.l0] at H
    by_cases c4 : x5_1 < (l0.length : Int)
    ·rw [if_pos c4] at H
     have c4b0 : decide (x5_1 < (l0.length : Int)) = true:=decide_eq_true c4
     clear c4
     by_cases c5 : 0 ≤ x5_1
     ·rw [if_pos c5] at H
      have c5b0 : decide (0 ≤ x5_1) = true:=decide_eq_true c5
      clear c5
      by_cases c6 : x5_1 < (l1.length : Int)
      ·rw [if_pos c6] at H
       have c6b0 : decide (x5_1 < (l1.length : Int)) = true:=decide_eq_true c6
       clear c6
       by_cases c7 : (rd l0 x5_1) = (rd l1 x5_1)
       ·rw [if_pos c7] at H
        have c7b0 : ((rd l0 x5_1) == (rd l1 x5_1)) = true:=beq_iff_eq.mpr c7
        have c7b1 : ((rd l0 x5_1) != (rd l1 x5_1)) = false:=bne_eq_false_iff_eq.mpr c7
        clear c7
        have H':=Aside0.mk H
        clear H
        have p160 : 0 ≤ (x5_1 : Int):=of_decide_eq_true (by first | (with_reducible assumption) | assumption)
        have q160 : x5_1 < (l0.length : Int):=of_decide_eq_true (by first | (with_reducible assumption) | assumption)
        obtain ⟨ad160,e160,hx160_0⟩:=Kd.at_int HR0.out x5_1 p160 q160
        cases e160
        replace p160:=eq_true p160
        replace q160:=eq_true q160
        have p161 : 0 ≤ (x5_1 : Int):=of_decide_eq_true (by first | (with_reducible assumption) | assumption)
        have q161 : x5_1 < (l1.length : Int):=of_decide_eq_true (by first | (with_reducible assumption) | assumption)
        obtain ⟨ad161,e161,hx161_0⟩:=Kd.at_int HR1.out x5_1 p161 q161
        cases e161
        replace p161:=eq_true p161
        replace q161:=eq_true q161
        go_wp2
        repeat (go_quiet (fail);try go_wp2)
        go_roundg k1
        case measure => have:=HK1.out;omega
        case rel => exact ⟨(wrap64 (x5_1 + 1)),(by first | rfl | (simp;done) | (simp [*];done)),H',⟨by have:=HK1.out;omega⟩,by repeat (first | exact Drawn0.refl _ | apply Drawn0.step)⟩
       ·rw [if_neg c7] at H
        have c7b0 : ((rd l0 x5_1) == (rd l1 x5_1)) = false:=beq_eq_false_iff_ne.mpr c7
        have c7b1 : ((rd l0 x5_1) != (rd l1 x5_1)) = true:=bne_iff_ne.mpr c7
        obtain rfl:=Option.some.inj H
        have p160 : 0 ≤ (x5_1 : Int):=of_decide_eq_true (by first | (with_reducible assumption) | assumption)
        have q160 : x5_1 < (l0.length : Int):=of_decide_eq_true (by first | (with_reducible assumption) | assumption)
        obtain ⟨ad160,e160,hx160_0⟩:=Kd.at_int HR0.out x5_1 p160 q160
        cases e160
        replace p160:=eq_true p160
        replace q160:=eq_true q160
        have p161 : 0 ≤ (x5_1 : Int):=of_decide_eq_true (by first | (with_reducible assumption) | assumption)
        have q161 : x5_1 < (l1.length : Int):=of_decide_eq_true (by first | (with_reducible assumption) | assumption)
        obtain ⟨ad161,e161,hx161_0⟩:=Kd.at_int HR1.out x5_1 p161 q161
        cases e161
        replace p161:=eq_true p161
        replace q161:=eq_true q161
        go_wp2
        repeat (go_quiet (fail);try go_wp2)
        go_ret
        exact ⟨by first | rfl | (simp;done) | (simp [*];done),by repeat (first | exact Drawn0.refl _ | apply Drawn0.step)⟩
      ·rw [if_neg c6] at H
       exact absurd H (by simp)
     ·rw [if_neg c5] at H
      exact absurd H (by simp)
    ·rw [if_neg c4] at H
     have c4b0 : decide (x5_1 < (l0.length : Int)) = false:=decide_eq_false c4
     clear c4
     obtain rfl:=Option.some.inj H
     go_wp2
     repeat (go_quiet (fail);try go_wp2)
     go_ret
     exact ⟨by first | rfl | (simp;done) | (simp [*];done),by repeat (first | exact Drawn0.refl _ | apply Drawn0.step)⟩
 ·rw [if_neg c3] at H
  have c3b0 : ((l0.length : Int) == (l1.length : Int)) = false:=beq_eq_false_iff_ne.mpr c3
  have c3b1 : ((l0.length : Int) != (l1.length : Int)) = true:=bne_iff_ne.mpr c3
  have c3b2 : (l0.length == l1.length) = false:=by first | simpa using c3 | (simp at c3 ⊢;omega)
  obtain rfl:=Option.some.inj H
  go_enter Tryd.func51,Tryd.ntmps51
  go_wp2
  repeat (go_quiet (fail);try go_wp2)
  go_ret
  exact ⟨by first | rfl | (simp;done) | (simp [*];done),by repeat (first | exact Drawn0.refl _ | apply Drawn0.step)⟩
end Go.Proofs.YtdoclpgciadjaaaDoor.P

namespace Go.Proofs.YtdoclpgciadjaaaDoor.P
open Go Go.RowKit Go.Proofs.YtdoclpgciadjaaaDoorW.PrintWords
set_option linter.unusedVariables false
def b2 (b : Bool) : Int:=if b then 1 else 0
theorem w64 {x : Int} (h0 : 0 ≤ x) (h1 : x < 1000000000) : wrap64 x = x:=by unfold wrap64;omega
theorem rd_get (v : List Int) (t : Nat) (h : t < v.length) : v[t]? = some (rd v (t : Int)):=by
 unfold rd
 rw [Int.toNat_natCast,List.getD_eq_getElem?_getD,List.getElem?_eq_getElem h];rfl
def SameTo (x l : List Int) (i : Nat) : Prop:=x.length = l.length ∧ ∀ t,t < i → x[t]? = l[t]?
theorem SameTo.zero {x l : List Int} (h : x.length = l.length) : SameTo x l 0:=⟨h,fun t ht => absurd ht (Nat.not_lt_zero t)⟩
theorem SameTo.all {x l : List Int} {i : Nat} (h : SameTo x l i) (hi : l.length ≤ i) : x = l:=by
 apply List.ext_getElem?
 intro t
 by_cases c : t < l.length
 ·exact h.2 t (by omega)
 ·rw [List.getElem?_eq_none (by have:=h.1;omega),List.getElem?_eq_none (by omega)]
theorem SameTo.next {x l : List Int} {i : Nat} (h : SameTo x l i) (hi : i < l.length) : SameTo (x.set i (rd l (i : Int))) l (i + 1):=by
 refine ⟨by rw [List.length_set];exact h.1,fun t ht => ?_⟩
 rw [List.getElem?_set]
 by_cases e : i = t
 ·subst e
  rw [if_pos rfl,if_pos (by have:=h.1;omega),rd_get l i hi]
 ·rw [if_neg e]
  exact h.2 t (by omega)
theorem ev_neg {α : Type} {c : Prop} [Decidable c] {f g : Nat → Option α} {r : α} (h : ¬ c) (k : Ev g r) : Ev (fun n => if c then f n else g n) r :=
 Ev.congr (fun _ => if_neg h) k
theorem ev_pos {α : Type} {c : Prop} [Decidable c] {f g : Nat → Option α} {r : α} (h : c) (k : Ev f r) : Ev (fun n => if c then f n else g n) r :=
 Ev.congr (fun _ => if_pos h) k
end Go.Proofs.YtdoclpgciadjaaaDoor.P

namespace Go.Proofs.YtdoclpgciadjaaaDoor.P
open Go Go.RowKit Go.Proofs.YtdoclpgciadjaaaDoorW.PrintWords
set_option linter.unusedVariables false
theorem szByteS_eq (l : List Int) (a : Int) (h : l.length ≤ maxLen) (h0 : 0 ≤ a) (h1 : a ≤ 1048576) : laws_szByteS.f l a = some (if a < l.length then -1 else a - l.length):=by
 unfold laws_szByteS.f
 simp only [maxLen] at h
 have e : wrap64 (a - (l.length : Int)) = a - l.length:=by unfold wrap64;omega
 rw [e]
 by_cases c : a < (l.length : Int)
 ·rw [if_pos (by omega),if_pos c]
 ·rw [if_neg (by omega),if_neg c]
theorem toByteS_ev (l : List Int) (h : l.length ≤ 10000000) : Ev (fun k => laws_toByteS.f k l) l:=by
 have loop : ∀ (d i : Nat) (x : List Int),i + d = l.length → SameTo x l i → Ev (fun k => laws_toByteS.l0 k l x (i : Int)) l:=by
  intro d
  induction d with
  | zero =>
   intro i x hi hx
   refine Ev.step (f:=fun _ => some l) (fun k => ?_) (Ev.now _)
   simp only [laws_toByteS.l0]
   rw [if_neg (by omega),hx.all (by omega)]
  | succ d ih =>
   intro i x hi hx
   refine Ev.step (f:=fun k => laws_toByteS.l0 k l (x.set i (rd l (i : Int))) ((i + 1 : Nat) : Int)) (fun k => ?_) (ih (i + 1) _ (by omega) (hx.next (by omega)))
   have hl:=hx.1
   simp only [laws_toByteS.l0]
   rw [if_pos (by omega),if_pos (by omega),if_pos (by omega),w64 (by omega) (by omega)]
   rfl
 refine Ev.congr (fun k => ?_) (loop l.length 0 (List.replicate l.length 0) (by omega) (SameTo.zero (by simp)))
 unfold laws_toByteS.f
 rw [if_pos (by omega),if_pos (by omega)]
 rfl
theorem eqByteS_ev (l : List Int) (h : l.length ≤ 10000000) : Ev (fun k => laws_eqByteS.f k l l) true:=by
 have loop : ∀ (d i : Nat),i + d = l.length → Ev (fun k => laws_eqByteS.l0 k l l (i : Int)) true:=by
  intro d
  induction d with
  | zero =>
   intro i hi
   refine Ev.step (f:=fun _ => some true) (fun k => ?_) (Ev.now _)
   simp only [laws_eqByteS.l0]
   rw [if_neg (by omega)]
  | succ d ih =>
   intro i hi
   refine Ev.step (f:=fun k => laws_eqByteS.l0 k l l ((i + 1 : Nat) : Int)) (fun k => ?_) (ih (i + 1) (by omega))
   simp only [laws_eqByteS.l0]
   rw [if_pos (by omega),if_pos (by omega),if_pos (by omega),if_pos trivial,w64 (by omega) (by omega)]
   rfl
 refine Ev.congr (fun k => ?_) (loop l.length 0 (by omega))
 unfold laws_eqByteS.f
 rw [if_pos rfl]
 rfl
end Go.Proofs.YtdoclpgciadjaaaDoor.P

namespace Go.Proofs.YtdoclpgciadjaaaDoor.P
open Go.RowKit Go.Proofs.YtdoclpgciadjaaaDoorW.PrintWords Go.Proofs.YtdoclpgciadjaaaDoorW.PrintLast Go.Proofs.YtdoclpgciadjaaaDoorW.PrintMore
set_option linter.unusedVariables false
set_option linter.unusedSimpArgs false
def laws_szFrame.f (a0_0 : Bool) (a0_1 : Int) (a0_2 : Bool) (a0_3 : Int) (l0_4 : List Int) (a1 : Int) : Option (Int):=(laws_szByteS.f l0_4 a1).bind fun t102 => (if t102 < 0 then (some (-1)) else (some t102))
set_option maxHeartbeats 8000000 in
set_option maxRecDepth 100000 in
theorem laws_szFrame.calls (a0_0 : Bool) (a0_1 : Int) (a0_2 : Bool) (a0_3 : Int) (A0_4 : Option Addr) (c0_4 : Nat) (l0_4 : List Int) (a1 : Int) (r : Int) (w : World) (hr0_4 : Kd.C (Kd.int .u8) w A0_4 l0_4.length l0_4) (hc0_4 : l0_4.length ≤ c0_4) (h : laws_szFrame.f a0_0 a0_1 a0_2 a0_3 l0_4 a1 = some r) :
  Calls Tryd.prog 18 #[.agg #[.bool a0_0, .int .u32 a0_1, .bool a0_2, .int .i64 a0_3, .slice A0_4 l0_4.length c0_4], .int .i64 a1] w fun e w' => e = .returned (.int .i64 r) ∧ Below w.heap.size w w':=by
 have hu25:=Tryd.underlying25
 have HR0_4:=Aside0.mk hr0_4
 have HC0_4:=Aside0.mk hc0_4
 clear hr0_4 hc0_4
 have HB:=Aside0.mk (Below.refl w.heap.size w)
 have H : ((laws_szByteS.f l0_4 a1).bind fun t102 => (if t102 < 0 then (some (-1)) else (some t102))) = some r:=h
 clear h
 replace H:=Option.bind_eq_some_iff.mp H
 obtain ⟨t102,A30,H⟩:=H
 replace H : (if t102 < 0 then (some (-1)) else (some t102)) = some r:=H
 have A3:=Aside0.mk A30
 clear A30
 by_cases c4 : t102 < 0
 ·rw [if_pos c4] at H
  have c4b0 : decide (t102 < 0) = true:=decide_eq_true c4
  clear c4
  obtain rfl:=Option.some.inj H
  go_enter Tryd.func18,Tryd.ntmps18
  go_wp2_with (first | ((with_reducible refine gate_dst (N:=2) rfl ?_);refine box_event ?hg (N:=2) ?hd (cs := #[.bool a0_0, .int .u32 a0_1, .bool a0_2, .int .i64 a0_3, .slice A0_4 l0_4.length c0_4]) (t:=25) ?hr ?_;(case hd => rfl);(case hg => rfl);(case hr => first | (go_simp;done) | (go_simp;rfl));intro gb101 hg w5 hbox hb;have n0_:=Aside0.mk (below_step (by repeat (first | (with_reducible first | exact HB.out | apply below_alloc | apply pw_below_drewN | apply below_drew1) | exact HB.out)) hb);have n1_:=Aside0.mk (hbox);have n2_:=Aside0.mk ((by rw [hg];exact (below_size (by repeat (first | (with_reducible first | exact HB.out | apply below_alloc | apply pw_below_drewN | apply below_drew1) | exact HB.out))) : w.heap.size ≤ gb101));have n3_:=Aside0.mk ((by rw [hg];exact (below_size (by repeat (first | (with_reducible first | exact HB.out | apply below_alloc | apply pw_below_drewN | apply below_drew1) | exact HB.out))) : w.heap.size ≤ gb101));clear HB;have HB:=n0_;have BK101:=n1_;have GW101:=n2_;have GE101:=n3_;clear n0_ n1_ n2_ n3_;clear hb hbox hg;obtain ⟨hcz6_0,hcz6_1,hcz6_2,hcz6_3,hcz6_4⟩:=bc5 BK101.out;obtain ⟨hfz6_0,hfz6_1,hfz6_2,hfz6_3,hfz6_4⟩:=bf5 BK101.out) | ((with_reducible refine gate_callee (f:=48) rfl ?_);refine goesL_ (some 8) rfl rfl Tryd.func48 (by kernel_rfl) rfl #[.slice A0_4 l0_4.length c0_4, .int .i64 a1] rfl (by (try simp only [List.map_toArray,List.map_cons,List.map_nil]);first | done | rfl | (simp only [List.length_drop,List.length_take];rfl)) ?_;(with_reducible refine (laws_szByteS.calls _ _ l0_4 a1 t102 _ ?side1 ?side2 A3.out).mono ?_);(case side1 => repeat (first | exact (Kd.C_below HR0_4.out HB.out) | (with_reducible refine Kd.C_alloc ?_ _) | (with_reducible refine Kd.C_drewN ?_ _) | (with_reducible refine Kd.C_drew ?_)));(case side2 => exact HC0_4.out);rintro e w' ⟨rfl,⟨nd,rfl⟩⟩;refine ⟨_,rfl, ?_⟩))
  go_ret
  exact ⟨by first | rfl | (simp [errW_none,errW_some] <;> rfl) | (simp [*,errW_none,errW_some] <;> rfl),by repeat (first | (with_reducible first | exact HB.out | apply below_alloc | apply pw_below_drewN | apply below_drew1 | refine below_set ?_ GE101.out) | exact HB.out)⟩
 ·rw [if_neg c4] at H
  have c4b0 : decide (t102 < 0) = false:=decide_eq_false c4
  clear c4
  obtain rfl:=Option.some.inj H
  go_enter Tryd.func18,Tryd.ntmps18
  go_wp2_with (first | ((with_reducible refine gate_dst (N:=2) rfl ?_);refine box_event ?hg (N:=2) ?hd (cs := #[.bool a0_0, .int .u32 a0_1, .bool a0_2, .int .i64 a0_3, .slice A0_4 l0_4.length c0_4]) (t:=25) ?hr ?_;(case hd => rfl);(case hg => rfl);(case hr => first | (go_simp;done) | (go_simp;rfl));intro gb101 hg w7 hbox hb;have n0_:=Aside0.mk (below_step (by repeat (first | (with_reducible first | exact HB.out | apply below_alloc | apply pw_below_drewN | apply below_drew1) | exact HB.out)) hb);have n1_:=Aside0.mk (hbox);have n2_:=Aside0.mk ((by rw [hg];exact (below_size (by repeat (first | (with_reducible first | exact HB.out | apply below_alloc | apply pw_below_drewN | apply below_drew1) | exact HB.out))) : w.heap.size ≤ gb101));have n3_:=Aside0.mk ((by rw [hg];exact (below_size (by repeat (first | (with_reducible first | exact HB.out | apply below_alloc | apply pw_below_drewN | apply below_drew1) | exact HB.out))) : w.heap.size ≤ gb101));clear HB;have HB:=n0_;have BK101:=n1_;have GW101:=n2_;have GE101:=n3_;clear n0_ n1_ n2_ n3_;clear hb hbox hg;obtain ⟨hcz8_0,hcz8_1,hcz8_2,hcz8_3,hcz8_4⟩:=bc5 BK101.out;obtain ⟨hfz8_0,hfz8_1,hfz8_2,hfz8_3,hfz8_4⟩:=bf5 BK101.out) | ((with_reducible refine gate_callee (f:=48) rfl ?_);refine goesL_ (some 8) rfl rfl Tryd.func48 (by kernel_rfl) rfl #[.slice A0_4 l0_4.length c0_4, .int .i64 a1] rfl (by (try simp only [List.map_toArray,List.map_cons,List.map_nil]);first | done | rfl | (simp only [List.length_drop,List.length_take];rfl)) ?_;(with_reducible refine (laws_szByteS.calls _ _ l0_4 a1 t102 _ ?side1 ?side2 A3.out).mono ?_);(case side1 => repeat (first | exact (Kd.C_below HR0_4.out HB.out) | (with_reducible refine Kd.C_alloc ?_ _) | (with_reducible refine Kd.C_drewN ?_ _) | (with_reducible refine Kd.C_drew ?_)));(case side2 => exact HC0_4.out);rintro e w' ⟨rfl,⟨nd,rfl⟩⟩;refine ⟨_,rfl, ?_⟩))
  go_ret
  exact ⟨by first | rfl | (simp [errW_none,errW_some] <;> rfl) | (simp [*,errW_none,errW_some] <;> rfl),by repeat (first | (with_reducible first | exact HB.out | apply below_alloc | apply pw_below_drewN | apply below_drew1 | refine below_set ?_ GE101.out) | exact HB.out)⟩
end Go.Proofs.YtdoclpgciadjaaaDoor.P

namespace Go.Proofs.YtdoclpgciadjaaaDoor.P
open Go.RowKit Go.Proofs.YtdoclpgciadjaaaDoorW.PrintWords Go.Proofs.YtdoclpgciadjaaaDoorW.PrintLast Go.Proofs.YtdoclpgciadjaaaDoorW.PrintMore
set_option linter.unusedVariables false
set_option linter.unusedSimpArgs false
def laws_toFrame.f (k : Nat) (a0_0 : Bool) (a0_1 : Int) (a0_2 : Bool) (a0_3 : Int) (l0_4 : List Int) : Option (Bool × Int × Bool × Int × List Int):=(laws_toByteS.f k l0_4).bind fun t136 => (some (a0_0,a0_1,a0_2,a0_3,t136))
set_option maxHeartbeats 8000000 in
set_option maxRecDepth 100000 in
theorem laws_toFrame.calls (k : Nat) (a0_0 : Bool) (a0_1 : Int) (a0_2 : Bool) (a0_3 : Int) (A0_4 : Option Addr) (c0_4 : Nat) (l0_4 : List Int) (r1 : Bool) (r2 : Int) (r3 : Bool) (r4 : Int) (r5 : List Int) (w : World) (hr0_4 : Kd.C (Kd.int .u8) w A0_4 l0_4.length l0_4) (hc0_4 : l0_4.length ≤ c0_4) (h : laws_toFrame.f k a0_0 a0_1 a0_2 a0_3 l0_4 = some (r1,r2,r3,r4,r5)) :
  Calls Tryd.prog 26 #[.agg #[.bool a0_0, .int .u32 a0_1, .bool a0_2, .int .i64 a0_3, .slice A0_4 l0_4.length c0_4]] w fun e w' => ∃ v4_ : Value,e = .returned (.agg #[.bool r1, .int .u32 r2, .bool r3, .int .i64 r4,v4_]) ∧ Kd.R (Kd.int .u8) 5 w' w.heap.size (fun _ => True) v4_ r5 ∧ Below w.heap.size w w':=by
 have hu25:=Tryd.underlying25
 have hu29:=Tryd.underlying29
 have HR0_4:=Aside0.mk hr0_4
 have HC0_4:=Aside0.mk hc0_4
 clear hr0_4 hc0_4
 have HB:=Aside0.mk (Below.refl w.heap.size w)
 have H : ((laws_toByteS.f k l0_4).bind fun t136 => (some (a0_0,a0_1,a0_2,a0_3,t136))) = some (r1,r2,r3,r4,r5):=h
 clear h
 replace H:=Option.bind_eq_some_iff.mp H
 obtain ⟨t136,A20,H⟩:=H
 replace H : (some (a0_0,a0_1,a0_2,a0_3,t136)) = some (r1,r2,r3,r4,r5):=H
 have A2:=Aside0.mk A20
 clear A20
 simp only [Option.some.injEq,Prod.mk.injEq] at H
 obtain ⟨rfl,rfl,rfl,rfl,rfl⟩:=H
 go_enter Tryd.func26,Tryd.ntmps26
 go_wp2_with (first | ((with_reducible refine gate_dst (N:=1) rfl ?_);refine box_event ?hg (N:=1) ?hd (cs := #[.bool a0_0, .int .u32 a0_1, .bool a0_2, .int .i64 a0_3, .slice A0_4 l0_4.length c0_4]) (t:=25) ?hr ?_;(case hd => rfl);(case hg => rfl);(case hr => first | (go_simp;done) | (go_simp;rfl));intro gb133 hg w3 hbox hb;have n0_:=Aside0.mk (below_step (by repeat (first | (with_reducible first | exact HB.out | apply below_alloc | apply pw_below_drewN | apply below_drew1) | exact HB.out)) hb);have n1_:=Aside0.mk (hbox);have n2_:=Aside0.mk ((by rw [hg];exact (below_size (by repeat (first | (with_reducible first | exact HB.out | apply below_alloc | apply pw_below_drewN | apply below_drew1) | exact HB.out))) : w.heap.size ≤ gb133));have n3_:=Aside0.mk ((by rw [hg];exact (below_size (by repeat (first | (with_reducible first | exact HB.out | apply below_alloc | apply pw_below_drewN | apply below_drew1) | exact HB.out))) : w.heap.size ≤ gb133));clear HB;have HB:=n0_;have BK133:=n1_;have GW133:=n2_;have GE133:=n3_;clear n0_ n1_ n2_ n3_;clear hb hbox hg) | ((with_reducible refine gate_dst (N:=2) rfl ?_);refine box_event ?hg (N:=2) ?hd (cs := #[.bool false, .int .u32 0, .bool false, .int .i64 0, .slice none 0 0]) (t:=29) ?hr ?_;(case hd => rfl);(case hg => rfl);(case hr => first | (go_simp;done) | (go_simp;rfl));intro gb134 hg w4 hbox hb;have n0_:=Aside0.mk (blk_below (g:=gb133) (o := .cells #[.bool a0_0, .int .u32 a0_1, .bool a0_2, .int .i64 a0_3, .slice A0_4 l0_4.length c0_4] 25 (0,0)) (by (with_reducible repeat (first | refine blk_drewN ?_ _ | refine blk_drew ?_ | refine blk_alloc ?_ _));exact BK133.out) hb);have n1_:=Aside0.mk (below_step (by repeat (first | (with_reducible first | exact HB.out | apply below_alloc | apply pw_below_drewN | apply below_drew1 | refine below_set ?_ GE133.out) | exact HB.out)) hb);have n2_:=Aside0.mk (hbox);have n3_:=Aside0.mk ((by rw [hg];exact (below_size (by repeat (first | (with_reducible first | exact HB.out | apply below_alloc | apply pw_below_drewN | apply below_drew1 | refine below_set ?_ GE133.out) | exact HB.out))) : w.heap.size ≤ gb134));have n4_:=Aside0.mk ((by rw [hg];exact (below_size (by repeat (first | (with_reducible first | exact HB.out | apply below_alloc | apply pw_below_drewN | apply below_drew1 | refine below_set ?_ GE133.out) | exact HB.out))) : w.heap.size ≤ gb134));have n5_:=Aside0.mk ((by rw [hg];exact Nat.ne_of_lt (blk_lt (g:=gb133) (o := .cells #[.bool a0_0, .int .u32 a0_1, .bool a0_2, .int .i64 a0_3, .slice A0_4 l0_4.length c0_4] 25 (0,0)) (by (with_reducible repeat (first | refine blk_drewN ?_ _ | refine blk_drew ?_ | refine blk_alloc ?_ _));exact BK133.out)) : gb133 ≠ gb134));have n6_:=Aside0.mk ((by rw [hg];exact Nat.ne_of_gt (blk_lt (g:=gb133) (o := .cells #[.bool a0_0, .int .u32 a0_1, .bool a0_2, .int .i64 a0_3, .slice A0_4 l0_4.length c0_4] 25 (0,0)) (by (with_reducible repeat (first | refine blk_drewN ?_ _ | refine blk_drew ?_ | refine blk_alloc ?_ _));exact BK133.out)) : gb134 ≠ gb133));clear BK133;clear HB;have BK133:=n0_;have HB:=n1_;have BK134:=n2_;have GW134:=n3_;have GE134:=n4_;have NB133_134:=n5_;have NB134_133:=n6_;clear n0_ n1_ n2_ n3_ n4_ n5_ n6_;clear hb hbox hg) | ((with_reducible refine gate_dst (N:=3) rfl ?_);refine box_event ?hg (N:=3) ?hd (cs := #[.bool false, .int .u32 0, .bool false, .int .i64 0, .slice none 0 0]) (t:=29) ?hr ?_;(case hd => rfl);(case hg => rfl);(case hr => first | (go_simp;done) | (go_simp;rfl));intro gb135 hg w5 hbox hb;have n0_:=Aside0.mk (blk_below (g:=gb133) (o := .cells #[.bool a0_0, .int .u32 a0_1, .bool a0_2, .int .i64 a0_3, .slice A0_4 l0_4.length c0_4] 25 (0,0)) (by (with_reducible repeat (first | refine blk_drewN ?_ _ | refine blk_drew ?_ | refine blk_alloc ?_ _));exact BK133.out) hb);have n1_:=Aside0.mk (blk_below (g:=gb134) (o := .cells #[.bool false, .int .u32 0, .bool false, .int .i64 0, .slice none 0 0] 29 (0,0)) (by (with_reducible repeat (first | refine blk_drewN ?_ _ | refine blk_drew ?_ | refine blk_alloc ?_ _));exact BK134.out) hb);have n2_:=Aside0.mk (below_step (by repeat (first | (with_reducible first | exact HB.out | apply below_alloc | apply pw_below_drewN | apply below_drew1 | refine below_set ?_ GE133.out | refine below_set ?_ GE134.out) | exact HB.out)) hb);have n3_:=Aside0.mk (hbox);have n4_:=Aside0.mk ((by rw [hg];exact (below_size (by repeat (first | (with_reducible first | exact HB.out | apply below_alloc | apply pw_below_drewN | apply below_drew1 | refine below_set ?_ GE133.out | refine below_set ?_ GE134.out) | exact HB.out))) : w.heap.size ≤ gb135));have n5_:=Aside0.mk ((by rw [hg];exact (below_size (by repeat (first | (with_reducible first | exact HB.out | apply below_alloc | apply pw_below_drewN | apply below_drew1 | refine below_set ?_ GE133.out | refine below_set ?_ GE134.out) | exact HB.out))) : w.heap.size ≤ gb135));have n6_:=Aside0.mk ((by rw [hg];exact Nat.ne_of_lt (blk_lt (g:=gb133) (o := .cells #[.bool a0_0, .int .u32 a0_1, .bool a0_2, .int .i64 a0_3, .slice A0_4 l0_4.length c0_4] 25 (0,0)) (by (with_reducible repeat (first | refine blk_drewN ?_ _ | refine blk_drew ?_ | refine blk_alloc ?_ _));exact BK133.out)) : gb133 ≠ gb135));have n7_:=Aside0.mk ((by rw [hg];exact Nat.ne_of_gt (blk_lt (g:=gb133) (o := .cells #[.bool a0_0, .int .u32 a0_1, .bool a0_2, .int .i64 a0_3, .slice A0_4 l0_4.length c0_4] 25 (0,0)) (by (with_reducible repeat (first | refine blk_drewN ?_ _ | refine blk_drew ?_ | refine blk_alloc ?_ _));exact BK133.out)) : gb135 ≠ gb133));have n8_:=Aside0.mk ((by rw [hg];exact Nat.ne_of_lt (blk_lt (g:=gb134) (o := .cells #[.bool false, .int .u32 0, .bool false, .int .i64 0, .slice none 0 0] 29 (0,0)) (by (with_reducible repeat (first | refine blk_drewN ?_ _ | refine blk_drew ?_ | refine blk_alloc ?_ _));exact BK134.out)) : gb134 ≠ gb135));have n9_:=Aside0.mk ((by rw [hg];exact Nat.ne_of_gt (blk_lt (g:=gb134) (o := .cells #[.bool false, .int .u32 0, .bool false, .int .i64 0, .slice none 0 0] 29 (0,0)) (by (with_reducible repeat (first | refine blk_drewN ?_ _ | refine blk_drew ?_ | refine blk_alloc ?_ _));exact BK134.out)) : gb135 ≠ gb134));clear BK133;clear BK134;clear HB;have BK133:=n0_;have BK134:=n1_;have HB:=n2_;have BK135:=n3_;have GW135:=n4_;have GE135:=n5_;have NB133_135:=n6_;have NB135_133:=n7_;have NB134_135:=n8_;have NB135_134:=n9_;clear n0_ n1_ n2_ n3_ n4_ n5_ n6_ n7_ n8_ n9_;clear hb hbox hg;have hnb6:=NB133_134.out;have hnc6:=NB134_133.out;have hnb7:=NB133_135.out;have hnc7:=NB135_133.out;obtain ⟨hcz8_0,hcz8_1,hcz8_2,hcz8_3,hcz8_4⟩:=bc5 BK133.out;obtain ⟨hfz8_0,hfz8_1,hfz8_2,hfz8_3,hfz8_4⟩:=bf5 BK133.out;have hnb9:=NB135_134.out;have hnc9:=NB134_135.out;obtain ⟨hcz10_0,hcz10_1,hcz10_2,hcz10_3,hcz10_4⟩:=bc5 BK135.out;obtain ⟨hfz10_0,hfz10_1,hfz10_2,hfz10_3,hfz10_4⟩:=bf5 BK135.out) | ((with_reducible refine gate_callee (f:=50) rfl ?_);refine goesL_ (some 18) rfl rfl Tryd.func50 (by kernel_rfl) rfl #[.slice A0_4 l0_4.length c0_4] rfl (by (try simp only [List.map_toArray,List.map_cons,List.map_nil]);first | done | rfl | (simp only [List.length_drop,List.length_take];rfl)) ?_;(with_reducible refine (laws_toByteS.calls k _ _ l0_4 t136 _ ?side1 ?side2 A2.out).mono ?_);(case side1 => exact Kd.C_below HR0_4.out (by repeat (first | (with_reducible first | exact HB.out | apply below_alloc | apply pw_below_drewN | apply below_drew1 | refine below_set ?_ GE133.out | refine below_set ?_ GE134.out | refine below_set ?_ GE135.out) | exact HB.out)));(case side2 => exact HC0_4.out);rintro e w11 ⟨v137,rfl,ho0,hb⟩;refine ⟨_,rfl, ?_⟩;have n0_:=Aside0.mk (Kd.R_lower ho0 (below_size (by repeat (first | (with_reducible first | exact HB.out | apply below_alloc | apply pw_below_drewN | apply below_drew1 | refine below_set ?_ GE133.out | refine below_set ?_ GE134.out | refine below_set ?_ GE135.out) | exact HB.out))));have n1_:=Aside0.mk (blk_below (g:=gb133) (o := .cells #[.bool a0_0, .int .u32 a0_1, .bool a0_2, .int .i64 a0_3, .slice A0_4 l0_4.length c0_4] 25 (0,0)) (by (with_reducible repeat (first | refine blk_drewN ?_ _ | refine blk_drew ?_ | refine blk_alloc ?_ _));refine blk_far ?_ NB133_135.out _;(with_reducible repeat (first | refine blk_drewN ?_ _ | refine blk_drew ?_ | refine blk_alloc ?_ _));refine blk_far ?_ NB133_135.out _;(with_reducible repeat (first | refine blk_drewN ?_ _ | refine blk_drew ?_ | refine blk_alloc ?_ _));refine blk_far ?_ NB133_135.out _;(with_reducible repeat (first | refine blk_drewN ?_ _ | refine blk_drew ?_ | refine blk_alloc ?_ _));refine blk_far ?_ NB133_135.out _;(with_reducible repeat (first | refine blk_drewN ?_ _ | refine blk_drew ?_ | refine blk_alloc ?_ _));exact BK133.out) hb);have n2_:=Aside0.mk (blk_below (g:=gb134) (o := .cells #[.bool false, .int .u32 0, .bool false, .int .i64 0, .slice none 0 0] 29 (0,0)) (by (with_reducible repeat (first | refine blk_drewN ?_ _ | refine blk_drew ?_ | refine blk_alloc ?_ _));refine blk_far ?_ NB134_135.out _;(with_reducible repeat (first | refine blk_drewN ?_ _ | refine blk_drew ?_ | refine blk_alloc ?_ _));refine blk_far ?_ NB134_135.out _;(with_reducible repeat (first | refine blk_drewN ?_ _ | refine blk_drew ?_ | refine blk_alloc ?_ _));refine blk_far ?_ NB134_135.out _;(with_reducible repeat (first | refine blk_drewN ?_ _ | refine blk_drew ?_ | refine blk_alloc ?_ _));refine blk_far ?_ NB134_135.out _;(with_reducible repeat (first | refine blk_drewN ?_ _ | refine blk_drew ?_ | refine blk_alloc ?_ _));exact BK134.out) hb);have n3_:=Aside0.mk (blk_below (g:=gb135) (o := .cells #[.bool a0_0, .int .u32 a0_1, .bool a0_2, .int .i64 a0_3, .slice none 0 0] 29 (0,0)) (by (with_reducible repeat (first | refine blk_drewN ?_ _ | refine blk_drew ?_ | refine blk_alloc ?_ _));refine blk_put (cs := #[.bool a0_0, .int .u32 a0_1, .bool a0_2, .int .i64 0, .slice none 0 0]) ?_ 3 _ rfl;(with_reducible repeat (first | refine blk_drewN ?_ _ | refine blk_drew ?_ | refine blk_alloc ?_ _));refine blk_put (cs := #[.bool a0_0, .int .u32 a0_1, .bool false, .int .i64 0, .slice none 0 0]) ?_ 2 _ rfl;(with_reducible repeat (first | refine blk_drewN ?_ _ | refine blk_drew ?_ | refine blk_alloc ?_ _));refine blk_put (cs := #[.bool a0_0, .int .u32 0, .bool false, .int .i64 0, .slice none 0 0]) ?_ 1 _ rfl;(with_reducible repeat (first | refine blk_drewN ?_ _ | refine blk_drew ?_ | refine blk_alloc ?_ _));refine blk_put (cs := #[.bool false, .int .u32 0, .bool false, .int .i64 0, .slice none 0 0]) ?_ 0 _ rfl;(with_reducible repeat (first | refine blk_drewN ?_ _ | refine blk_drew ?_ | refine blk_alloc ?_ _));exact BK135.out) hb);have n4_:=Aside0.mk (below_step (by repeat (first | (with_reducible first | exact HB.out | apply below_alloc | apply pw_below_drewN | apply below_drew1 | refine below_set ?_ GE133.out | refine below_set ?_ GE134.out | refine below_set ?_ GE135.out) | exact HB.out)) hb);clear BK133;clear BK134;clear BK135;clear HB;have HO138:=n0_;have BK133:=n1_;have BK134:=n2_;have BK135:=n3_;have HB:=n4_;clear n0_ n1_ n2_ n3_ n4_;(try clear hb);(try clear hb2);(try clear hk);(try clear hi);(try clear ho0);obtain ⟨Ao12,co12,eo12⟩:=Kd.R_slice HO138.out;subst eo12;obtain ⟨hcz13_0,hcz13_1,hcz13_2,hcz13_3,hcz13_4⟩:=bc5 BK135.out;obtain ⟨hfz13_0,hfz13_1,hfz13_2,hfz13_3,hfz13_4⟩:=bf5 BK135.out;obtain ⟨hcz14_0,hcz14_1,hcz14_2,hcz14_3,hcz14_4⟩:=bc5 BK134.out;obtain ⟨hfz14_0,hfz14_1,hfz14_2,hfz14_3,hfz14_4⟩:=bf5 BK134.out))
 refine bodyPost_ret (results_cell_row rfl _ _ gb134 29 #[.bool a0_0, .int .u32 a0_1, .bool a0_2, .int .i64 a0_3, .slice Ao12 t136.length co12] (0,0) _ rfl (by (with_reducible repeat (first | refine blk_drewN ?_ _ | refine blk_drew ?_ | refine blk_alloc ?_ _));refine blk_put (cs := #[.bool a0_0, .int .u32 a0_1, .bool a0_2, .int .i64 a0_3, .slice none 0 0]) ?_ 4 _ rfl;(with_reducible repeat (first | refine blk_drewN ?_ _ | refine blk_drew ?_ | refine blk_alloc ?_ _));refine blk_put (cs := #[.bool a0_0, .int .u32 a0_1, .bool a0_2, .int .i64 0, .slice none 0 0]) ?_ 3 _ rfl;(with_reducible repeat (first | refine blk_drewN ?_ _ | refine blk_drew ?_ | refine blk_alloc ?_ _));refine blk_put (cs := #[.bool a0_0, .int .u32 a0_1, .bool false, .int .i64 0, .slice none 0 0]) ?_ 2 _ rfl;(with_reducible repeat (first | refine blk_drewN ?_ _ | refine blk_drew ?_ | refine blk_alloc ?_ _));refine blk_put (cs := #[.bool a0_0, .int .u32 0, .bool false, .int .i64 0, .slice none 0 0]) ?_ 1 _ rfl;(with_reducible repeat (first | refine blk_drewN ?_ _ | refine blk_drew ?_ | refine blk_alloc ?_ _));refine blk_put (cs := #[.bool false, .int .u32 0, .bool false, .int .i64 0, .slice none 0 0]) ?_ 0 _ rfl;(with_reducible repeat (first | refine blk_drewN ?_ _ | refine blk_drew ?_ | refine blk_alloc ?_ _));refine blk_far ?_ NB134_135.out _;(with_reducible repeat (first | refine blk_drewN ?_ _ | refine blk_drew ?_ | refine blk_alloc ?_ _));exact BK134.out) Tryd.underlying29 rfl (by kernel_rfl)) rfl ?_
 exact ⟨_,by first | rfl | (simp [errW_none,errW_some] <;> rfl) | (simp [*,errW_none,errW_some] <;> rfl),by (with_reducible repeat (first | apply Kd.R_alloc | apply Kd.R_drewN | apply Kd.R_drew));exact Kd.R_mono (Kd.R_far (p:=⟨gb134,4,none⟩) (Kd.R_far (p:=⟨gb134,3,none⟩) (Kd.R_far (p:=⟨gb134,2,none⟩) (Kd.R_far (p:=⟨gb134,1,none⟩) (Kd.R_far (p:=⟨gb134,0,none⟩) (Kd.R_far (p:=⟨gb135,4,none⟩) (Kd.R_types (Kd.R_types HO138.out BK135.out (by decide)) BK134.out (by decide)) (fun _ hk => hk.1.2) (.slice Ao12 t136.length co12)) (fun _ hk => hk.2) (.bool a0_0)) (fun _ hk => hk.2) (.int .u32 a0_1)) (fun _ hk => hk.2) (.bool a0_2)) (fun _ hk => hk.2) (.int .i64 a0_3)) (fun _ hk => hk.2) (.slice Ao12 t136.length co12)) (fun _ hk => trivial),by repeat (first | (with_reducible first | exact HB.out | apply below_alloc | apply pw_below_drewN | apply below_drew1 | refine below_set ?_ GE133.out | refine below_set ?_ GE134.out | refine below_set ?_ GE135.out) | exact HB.out)⟩
end Go.Proofs.YtdoclpgciadjaaaDoor.P

namespace Go.Proofs.YtdoclpgciadjaaaDoor.P
open Go.RowKit Go.Proofs.YtdoclpgciadjaaaDoorW.PrintWords Go.Proofs.YtdoclpgciadjaaaDoorW.PrintLast Go.Proofs.YtdoclpgciadjaaaDoorW.PrintMore
set_option linter.unusedVariables false
set_option linter.unusedSimpArgs false
def laws_eqFrame.f (k : Nat) (a0_0 : Bool) (a0_1 : Int) (a0_2 : Bool) (a0_3 : Int) (l0_4 : List Int) (a1_0 : Bool) (a1_1 : Int) (a1_2 : Bool) (a1_3 : Int) (l1_4 : List Int) : Option (Bool):=if (a0_0 != a1_0) = true then (some false) else (if a0_1 = a1_1 then (if (a0_2 != a1_2) = true then (some false) else (if a0_3 = a1_3 then ((laws_eqByteS.f k l0_4 l1_4).bind fun t164 => (if t164 = true then (some true) else (some false))) else (some false))) else (some false))
set_option maxHeartbeats 8000000 in
set_option maxRecDepth 100000 in
theorem laws_eqFrame.calls (k : Nat) (a0_0 : Bool) (a0_1 : Int) (a0_2 : Bool) (a0_3 : Int) (A0_4 : Option Addr) (c0_4 : Nat) (l0_4 : List Int) (a1_0 : Bool) (a1_1 : Int) (a1_2 : Bool) (a1_3 : Int) (A1_4 : Option Addr) (c1_4 : Nat) (l1_4 : List Int) (r : Bool) (w : World) (hr0_4 : Kd.C (Kd.int .u8) w A0_4 l0_4.length l0_4) (hc0_4 : l0_4.length ≤ c0_4) (hr1_4 : Kd.C (Kd.int .u8) w A1_4 l1_4.length l1_4) (hc1_4 : l1_4.length ≤ c1_4) (h : laws_eqFrame.f k a0_0 a0_1 a0_2 a0_3 l0_4 a1_0 a1_1 a1_2 a1_3 l1_4 = some r) :
  Calls Tryd.prog 34 #[.agg #[.bool a0_0, .int .u32 a0_1, .bool a0_2, .int .i64 a0_3, .slice A0_4 l0_4.length c0_4], .agg #[.bool a1_0, .int .u32 a1_1, .bool a1_2, .int .i64 a1_3, .slice A1_4 l1_4.length c1_4]] w fun e w' => e = .returned (.bool r) ∧ Below w.heap.size w w':=by
 have hu29:=Tryd.underlying29
 have HR0_4:=Aside0.mk hr0_4
 have HC0_4:=Aside0.mk hc0_4
 clear hr0_4 hc0_4
 have HR1_4:=Aside0.mk hr1_4
 have HC1_4:=Aside0.mk hc1_4
 clear hr1_4 hc1_4
 have HB:=Aside0.mk (Below.refl w.heap.size w)
 have H : (if (a0_0 != a1_0) = true then (some false) else (if a0_1 = a1_1 then (if (a0_2 != a1_2) = true then (some false) else (if a0_3 = a1_3 then ((laws_eqByteS.f k l0_4 l1_4).bind fun t164 => (if t164 = true then (some true) else (some false))) else (some false))) else (some false))) = some r:=h
 clear h
 by_cases c3 : (a0_0 != a1_0) = true
 ·rw [if_pos c3] at H
  have c3b0 : (a0_0 != a1_0) = true:=c3
  (try (have c3b1 : decide (a0_0 = a1_0) = false:=by simpa using c3))
  (try (have c3b2 : (a0_0 == a1_0) = false:=by simpa using c3))
  (try (have c3b3 : ¬ (a0_0 = a1_0):=by simpa using c3))
  clear c3
  obtain rfl:=Option.some.inj H
  go_enter Tryd.func34,Tryd.ntmps34
  go_wp2_with (first | ((with_reducible refine gate_dst (N:=2) rfl ?_);refine box_event ?hg (N:=2) ?hd (cs := #[.bool a0_0, .int .u32 a0_1, .bool a0_2, .int .i64 a0_3, .slice A0_4 l0_4.length c0_4]) (t:=29) ?hr ?_;(case hd => rfl);(case hg => rfl);(case hr => first | (go_simp;done) | (go_simp;rfl));intro gb162 hg w4 hbox hb;have n0_:=Aside0.mk (below_step (by repeat (first | (with_reducible first | exact HB.out | apply below_alloc | apply pw_below_drewN | apply below_drew1) | exact HB.out)) hb);have n1_:=Aside0.mk (hbox);have n2_:=Aside0.mk ((by rw [hg];exact (below_size (by repeat (first | (with_reducible first | exact HB.out | apply below_alloc | apply pw_below_drewN | apply below_drew1) | exact HB.out))) : w.heap.size ≤ gb162));have n3_:=Aside0.mk ((by rw [hg];exact (below_size (by repeat (first | (with_reducible first | exact HB.out | apply below_alloc | apply pw_below_drewN | apply below_drew1) | exact HB.out))) : w.heap.size ≤ gb162));clear HB;have HB:=n0_;have BK162:=n1_;have GW162:=n2_;have GE162:=n3_;clear n0_ n1_ n2_ n3_;clear hb hbox hg) | ((with_reducible refine gate_dst (N:=3) rfl ?_);refine box_event ?hg (N:=3) ?hd (cs := #[.bool a1_0, .int .u32 a1_1, .bool a1_2, .int .i64 a1_3, .slice A1_4 l1_4.length c1_4]) (t:=29) ?hr ?_;(case hd => rfl);(case hg => rfl);(case hr => first | (go_simp;done) | (go_simp;rfl));intro gb163 hg w5 hbox hb;have n0_:=Aside0.mk (blk_below (g:=gb162) (o := .cells #[.bool a0_0, .int .u32 a0_1, .bool a0_2, .int .i64 a0_3, .slice A0_4 l0_4.length c0_4] 29 (0,0)) (by (with_reducible repeat (first | refine blk_drewN ?_ _ | refine blk_drew ?_ | refine blk_alloc ?_ _));exact BK162.out) hb);have n1_:=Aside0.mk (below_step (by repeat (first | (with_reducible first | exact HB.out | apply below_alloc | apply pw_below_drewN | apply below_drew1 | refine below_set ?_ GE162.out) | exact HB.out)) hb);have n2_:=Aside0.mk (hbox);have n3_:=Aside0.mk ((by rw [hg];exact (below_size (by repeat (first | (with_reducible first | exact HB.out | apply below_alloc | apply pw_below_drewN | apply below_drew1 | refine below_set ?_ GE162.out) | exact HB.out))) : w.heap.size ≤ gb163));have n4_:=Aside0.mk ((by rw [hg];exact (below_size (by repeat (first | (with_reducible first | exact HB.out | apply below_alloc | apply pw_below_drewN | apply below_drew1 | refine below_set ?_ GE162.out) | exact HB.out))) : w.heap.size ≤ gb163));have n5_:=Aside0.mk ((by rw [hg];exact Nat.ne_of_lt (blk_lt (g:=gb162) (o := .cells #[.bool a0_0, .int .u32 a0_1, .bool a0_2, .int .i64 a0_3, .slice A0_4 l0_4.length c0_4] 29 (0,0)) (by (with_reducible repeat (first | refine blk_drewN ?_ _ | refine blk_drew ?_ | refine blk_alloc ?_ _));exact BK162.out)) : gb162 ≠ gb163));have n6_:=Aside0.mk ((by rw [hg];exact Nat.ne_of_gt (blk_lt (g:=gb162) (o := .cells #[.bool a0_0, .int .u32 a0_1, .bool a0_2, .int .i64 a0_3, .slice A0_4 l0_4.length c0_4] 29 (0,0)) (by (with_reducible repeat (first | refine blk_drewN ?_ _ | refine blk_drew ?_ | refine blk_alloc ?_ _));exact BK162.out)) : gb163 ≠ gb162));clear BK162;clear HB;have BK162:=n0_;have HB:=n1_;have BK163:=n2_;have GW163:=n3_;have GE163:=n4_;have NB162_163:=n5_;have NB163_162:=n6_;clear n0_ n1_ n2_ n3_ n4_ n5_ n6_;clear hb hbox hg;have hnb6:=NB162_163.out;have hnc6:=NB163_162.out;obtain ⟨hcz7_0,hcz7_1,hcz7_2,hcz7_3,hcz7_4⟩:=bc5 BK162.out;obtain ⟨hfz7_0,hfz7_1,hfz7_2,hfz7_3,hfz7_4⟩:=bf5 BK162.out;obtain ⟨hcz8_0,hcz8_1,hcz8_2,hcz8_3,hcz8_4⟩:=bc5 BK163.out;obtain ⟨hfz8_0,hfz8_1,hfz8_2,hfz8_3,hfz8_4⟩:=bf5 BK163.out))
  go_ret
  exact ⟨by first | rfl | (simp [errW_none,errW_some] <;> rfl) | (simp [*,errW_none,errW_some] <;> rfl),by repeat (first | (with_reducible first | exact HB.out | apply below_alloc | apply pw_below_drewN | apply below_drew1 | refine below_set ?_ GE162.out | refine below_set ?_ GE163.out) | exact HB.out)⟩
 ·rw [if_neg c3] at H
  have c3b0 : (a0_0 != a1_0) = false:=by simpa using c3
  (try (have c3b1 : decide (a0_0 = a1_0) = true:=by simpa using c3))
  (try (have c3b2 : (a0_0 == a1_0) = true:=by simpa using c3))
  clear c3
  by_cases c9 : a0_1 = a1_1
  ·rw [if_pos c9] at H
   have c9b0 : (a0_1 == a1_1) = true:=beq_iff_eq.mpr c9
   have c9b1 : (a0_1 != a1_1) = false:=bne_eq_false_iff_eq.mpr c9
   clear c9
   by_cases c10 : (a0_2 != a1_2) = true
   ·rw [if_pos c10] at H
    have c10b0 : (a0_2 != a1_2) = true:=c10
    (try (have c10b1 : decide (a0_2 = a1_2) = false:=by simpa using c10))
    (try (have c10b2 : (a0_2 == a1_2) = false:=by simpa using c10))
    (try (have c10b3 : ¬ (a0_2 = a1_2):=by simpa using c10))
    clear c10
    obtain rfl:=Option.some.inj H
    go_enter Tryd.func34,Tryd.ntmps34
    go_wp2_with (first | ((with_reducible refine gate_dst (N:=2) rfl ?_);refine box_event ?hg (N:=2) ?hd (cs := #[.bool a0_0, .int .u32 a0_1, .bool a0_2, .int .i64 a0_3, .slice A0_4 l0_4.length c0_4]) (t:=29) ?hr ?_;(case hd => rfl);(case hg => rfl);(case hr => first | (go_simp;done) | (go_simp;rfl));intro gb162 hg w11 hbox hb;have n0_:=Aside0.mk (below_step (by repeat (first | (with_reducible first | exact HB.out | apply below_alloc | apply pw_below_drewN | apply below_drew1) | exact HB.out)) hb);have n1_:=Aside0.mk (hbox);have n2_:=Aside0.mk ((by rw [hg];exact (below_size (by repeat (first | (with_reducible first | exact HB.out | apply below_alloc | apply pw_below_drewN | apply below_drew1) | exact HB.out))) : w.heap.size ≤ gb162));have n3_:=Aside0.mk ((by rw [hg];exact (below_size (by repeat (first | (with_reducible first | exact HB.out | apply below_alloc | apply pw_below_drewN | apply below_drew1) | exact HB.out))) : w.heap.size ≤ gb162));clear HB;have HB:=n0_;have BK162:=n1_;have GW162:=n2_;have GE162:=n3_;clear n0_ n1_ n2_ n3_;clear hb hbox hg) | ((with_reducible refine gate_dst (N:=3) rfl ?_);refine box_event ?hg (N:=3) ?hd (cs := #[.bool a1_0, .int .u32 a1_1, .bool a1_2, .int .i64 a1_3, .slice A1_4 l1_4.length c1_4]) (t:=29) ?hr ?_;(case hd => rfl);(case hg => rfl);(case hr => first | (go_simp;done) | (go_simp;rfl));intro gb163 hg w12 hbox hb;have n0_:=Aside0.mk (blk_below (g:=gb162) (o := .cells #[.bool a0_0, .int .u32 a0_1, .bool a0_2, .int .i64 a0_3, .slice A0_4 l0_4.length c0_4] 29 (0,0)) (by (with_reducible repeat (first | refine blk_drewN ?_ _ | refine blk_drew ?_ | refine blk_alloc ?_ _));exact BK162.out) hb);have n1_:=Aside0.mk (below_step (by repeat (first | (with_reducible first | exact HB.out | apply below_alloc | apply pw_below_drewN | apply below_drew1 | refine below_set ?_ GE162.out) | exact HB.out)) hb);have n2_:=Aside0.mk (hbox);have n3_:=Aside0.mk ((by rw [hg];exact (below_size (by repeat (first | (with_reducible first | exact HB.out | apply below_alloc | apply pw_below_drewN | apply below_drew1 | refine below_set ?_ GE162.out) | exact HB.out))) : w.heap.size ≤ gb163));have n4_:=Aside0.mk ((by rw [hg];exact (below_size (by repeat (first | (with_reducible first | exact HB.out | apply below_alloc | apply pw_below_drewN | apply below_drew1 | refine below_set ?_ GE162.out) | exact HB.out))) : w.heap.size ≤ gb163));have n5_:=Aside0.mk ((by rw [hg];exact Nat.ne_of_lt (blk_lt (g:=gb162) (o := .cells #[.bool a0_0, .int .u32 a0_1, .bool a0_2, .int .i64 a0_3, .slice A0_4 l0_4.length c0_4] 29 (0,0)) (by (with_reducible repeat (first | refine blk_drewN ?_ _ | refine blk_drew ?_ | refine blk_alloc ?_ _));exact BK162.out)) : gb162 ≠ gb163));have n6_:=Aside0.mk ((by rw [hg];exact Nat.ne_of_gt (blk_lt (g:=gb162) (o := .cells #[.bool a0_0, .int .u32 a0_1, .bool a0_2, .int .i64 a0_3, .slice A0_4 l0_4.length c0_4] 29 (0,0)) (by (with_reducible repeat (first | refine blk_drewN ?_ _ | refine blk_drew ?_ | refine blk_alloc ?_ _));exact BK162.out)) : gb163 ≠ gb162));clear BK162;clear HB;have BK162:=n0_;have HB:=n1_;have BK163:=n2_;have GW163:=n3_;have GE163:=n4_;have NB162_163:=n5_;have NB163_162:=n6_;clear n0_ n1_ n2_ n3_ n4_ n5_ n6_;clear hb hbox hg;have hnb13:=NB162_163.out;have hnc13:=NB163_162.out;obtain ⟨hcz14_0,hcz14_1,hcz14_2,hcz14_3,hcz14_4⟩:=bc5 BK162.out;obtain ⟨hfz14_0,hfz14_1,hfz14_2,hfz14_3,hfz14_4⟩:=bf5 BK162.out;obtain ⟨hcz15_0,hcz15_1,hcz15_2,hcz15_3,hcz15_4⟩:=bc5 BK163.out;obtain ⟨hfz15_0,hfz15_1,hfz15_2,hfz15_3,hfz15_4⟩:=bf5 BK163.out))
    go_ret
    exact ⟨by first | rfl | (simp [errW_none,errW_some] <;> rfl) | (simp [*,errW_none,errW_some] <;> rfl),by repeat (first | (with_reducible first | exact HB.out | apply below_alloc | apply pw_below_drewN | apply below_drew1 | refine below_set ?_ GE162.out | refine below_set ?_ GE163.out) | exact HB.out)⟩
   ·rw [if_neg c10] at H
    have c10b0 : (a0_2 != a1_2) = false:=by simpa using c10
    (try (have c10b1 : decide (a0_2 = a1_2) = true:=by simpa using c10))
    (try (have c10b2 : (a0_2 == a1_2) = true:=by simpa using c10))
    clear c10
    by_cases c16 : a0_3 = a1_3
    ·rw [if_pos c16] at H
     have c16b0 : (a0_3 == a1_3) = true:=beq_iff_eq.mpr c16
     have c16b1 : (a0_3 != a1_3) = false:=bne_eq_false_iff_eq.mpr c16
     clear c16
     replace H:=Option.bind_eq_some_iff.mp H
     obtain ⟨t164,A170,H⟩:=H
     replace H : (if t164 = true then (some true) else (some false)) = some r:=H
     have A17:=Aside0.mk A170
     clear A170
     by_cases c18 : t164 = true
     ·subst c18
      have H1 : (some true) = some r:=by rw [if_pos rfl] at H;exact H
      clear H
      have H:=H1
      clear H1
      obtain rfl:=Option.some.inj H
      go_enter Tryd.func34,Tryd.ntmps34
      go_wp2_with (first | ((with_reducible refine gate_dst (N:=2) rfl ?_);refine box_event ?hg (N:=2) ?hd (cs := #[.bool a0_0, .int .u32 a0_1, .bool a0_2, .int .i64 a0_3, .slice A0_4 l0_4.length c0_4]) (t:=29) ?hr ?_;(case hd => rfl);(case hg => rfl);(case hr => first | (go_simp;done) | (go_simp;rfl));intro gb162 hg w19 hbox hb;have n0_:=Aside0.mk (below_step (by repeat (first | (with_reducible first | exact HB.out | apply below_alloc | apply pw_below_drewN | apply below_drew1) | exact HB.out)) hb);have n1_:=Aside0.mk (hbox);have n2_:=Aside0.mk ((by rw [hg];exact (below_size (by repeat (first | (with_reducible first | exact HB.out | apply below_alloc | apply pw_below_drewN | apply below_drew1) | exact HB.out))) : w.heap.size ≤ gb162));have n3_:=Aside0.mk ((by rw [hg];exact (below_size (by repeat (first | (with_reducible first | exact HB.out | apply below_alloc | apply pw_below_drewN | apply below_drew1) | exact HB.out))) : w.heap.size ≤ gb162));clear HB;have HB:=n0_;have BK162:=n1_;have GW162:=n2_;have GE162:=n3_;clear n0_ n1_ n2_ n3_;clear hb hbox hg) | ((with_reducible refine gate_dst (N:=3) rfl ?_);refine box_event ?hg (N:=3) ?hd (cs := #[.bool a1_0, .int .u32 a1_1, .bool a1_2, .int .i64 a1_3, .slice A1_4 l1_4.length c1_4]) (t:=29) ?hr ?_;(case hd => rfl);(case hg => rfl);(case hr => first | (go_simp;done) | (go_simp;rfl));intro gb163 hg w20 hbox hb;have n0_:=Aside0.mk (blk_below (g:=gb162) (o := .cells #[.bool a0_0, .int .u32 a0_1, .bool a0_2, .int .i64 a0_3, .slice A0_4 l0_4.length c0_4] 29 (0,0)) (by (with_reducible repeat (first | refine blk_drewN ?_ _ | refine blk_drew ?_ | refine blk_alloc ?_ _));exact BK162.out) hb);have n1_:=Aside0.mk (below_step (by repeat (first | (with_reducible first | exact HB.out | apply below_alloc | apply pw_below_drewN | apply below_drew1 | refine below_set ?_ GE162.out) | exact HB.out)) hb);have n2_:=Aside0.mk (hbox);have n3_:=Aside0.mk ((by rw [hg];exact (below_size (by repeat (first | (with_reducible first | exact HB.out | apply below_alloc | apply pw_below_drewN | apply below_drew1 | refine below_set ?_ GE162.out) | exact HB.out))) : w.heap.size ≤ gb163));have n4_:=Aside0.mk ((by rw [hg];exact (below_size (by repeat (first | (with_reducible first | exact HB.out | apply below_alloc | apply pw_below_drewN | apply below_drew1 | refine below_set ?_ GE162.out) | exact HB.out))) : w.heap.size ≤ gb163));have n5_:=Aside0.mk ((by rw [hg];exact Nat.ne_of_lt (blk_lt (g:=gb162) (o := .cells #[.bool a0_0, .int .u32 a0_1, .bool a0_2, .int .i64 a0_3, .slice A0_4 l0_4.length c0_4] 29 (0,0)) (by (with_reducible repeat (first | refine blk_drewN ?_ _ | refine blk_drew ?_ | refine blk_alloc ?_ _));exact BK162.out)) : gb162 ≠ gb163));have n6_:=Aside0.mk ((by rw [hg];exact Nat.ne_of_gt (blk_lt (g:=gb162) (o := .cells #[.bool a0_0, .int .u32 a0_1, .bool a0_2, .int .i64 a0_3, .slice A0_4 l0_4.length c0_4] 29 (0,0)) (by (with_reducible repeat (first | refine blk_drewN ?_ _ | refine blk_drew ?_ | refine blk_alloc ?_ _));exact BK162.out)) : gb163 ≠ gb162));clear BK162;clear HB;have BK162:=n0_;have HB:=n1_;have BK163:=n2_;have GW163:=n3_;have GE163:=n4_;have NB162_163:=n5_;have NB163_162:=n6_;clear n0_ n1_ n2_ n3_ n4_ n5_ n6_;clear hb hbox hg;have hnb21:=NB162_163.out;have hnc21:=NB163_162.out;obtain ⟨hcz22_0,hcz22_1,hcz22_2,hcz22_3,hcz22_4⟩:=bc5 BK162.out;obtain ⟨hfz22_0,hfz22_1,hfz22_2,hfz22_3,hfz22_4⟩:=bf5 BK162.out;obtain ⟨hcz23_0,hcz23_1,hcz23_2,hcz23_3,hcz23_4⟩:=bc5 BK163.out;obtain ⟨hfz23_0,hfz23_1,hfz23_2,hfz23_3,hfz23_4⟩:=bf5 BK163.out) | ((with_reducible refine gate_callee (f:=51) rfl ?_);refine goesL_ (some 29) rfl rfl Tryd.func51 (by kernel_rfl) rfl #[.slice A0_4 l0_4.length c0_4, .slice A1_4 l1_4.length c1_4] rfl (by (try simp only [List.map_toArray,List.map_cons,List.map_nil]);first | done | rfl | (simp only [List.length_drop,List.length_take];rfl)) ?_;(with_reducible refine (laws_eqByteS.calls k _ _ l0_4 _ _ l1_4 true _ ?side1 ?side2 ?side3 ?side4 A17.out).mono ?_);(case side1 => repeat (first | exact (Kd.C_below HR0_4.out HB.out) | (with_reducible refine Kd.C_alloc ?_ _) | (with_reducible refine Kd.C_drewN ?_ _) | (with_reducible refine Kd.C_drew ?_)));(case side2 => exact HC0_4.out);(case side3 => repeat (first | exact (Kd.C_below HR1_4.out HB.out) | (with_reducible refine Kd.C_alloc ?_ _) | (with_reducible refine Kd.C_drewN ?_ _) | (with_reducible refine Kd.C_drew ?_)));(case side4 => exact HC1_4.out);rintro e w' ⟨rfl,⟨nd,rfl⟩⟩;refine ⟨_,rfl, ?_⟩))
      go_ret
      exact ⟨by first | rfl | (simp [errW_none,errW_some] <;> rfl) | (simp [*,errW_none,errW_some] <;> rfl),by repeat (first | (with_reducible first | exact HB.out | apply below_alloc | apply pw_below_drewN | apply below_drew1 | refine below_set ?_ GE162.out | refine below_set ?_ GE163.out) | exact HB.out)⟩
     ·replace c18:=Bool.eq_false_iff.mpr c18
      subst c18
      have H1 : (some false) = some r:=by rw [if_neg (show ¬ (false = true) by decide)] at H;exact H
      clear H
      have H:=H1
      clear H1
      obtain rfl:=Option.some.inj H
      go_enter Tryd.func34,Tryd.ntmps34
      go_wp2_with (first | ((with_reducible refine gate_dst (N:=2) rfl ?_);refine box_event ?hg (N:=2) ?hd (cs := #[.bool a0_0, .int .u32 a0_1, .bool a0_2, .int .i64 a0_3, .slice A0_4 l0_4.length c0_4]) (t:=29) ?hr ?_;(case hd => rfl);(case hg => rfl);(case hr => first | (go_simp;done) | (go_simp;rfl));intro gb162 hg w24 hbox hb;have n0_:=Aside0.mk (below_step (by repeat (first | (with_reducible first | exact HB.out | apply below_alloc | apply pw_below_drewN | apply below_drew1) | exact HB.out)) hb);have n1_:=Aside0.mk (hbox);have n2_:=Aside0.mk ((by rw [hg];exact (below_size (by repeat (first | (with_reducible first | exact HB.out | apply below_alloc | apply pw_below_drewN | apply below_drew1) | exact HB.out))) : w.heap.size ≤ gb162));have n3_:=Aside0.mk ((by rw [hg];exact (below_size (by repeat (first | (with_reducible first | exact HB.out | apply below_alloc | apply pw_below_drewN | apply below_drew1) | exact HB.out))) : w.heap.size ≤ gb162));clear HB;have HB:=n0_;have BK162:=n1_;have GW162:=n2_;have GE162:=n3_;clear n0_ n1_ n2_ n3_;clear hb hbox hg) | ((with_reducible refine gate_dst (N:=3) rfl ?_);refine box_event ?hg (N:=3) ?hd (cs := #[.bool a1_0, .int .u32 a1_1, .bool a1_2, .int .i64 a1_3, .slice A1_4 l1_4.length c1_4]) (t:=29) ?hr ?_;(case hd => rfl);(case hg => rfl);(case hr => first | (go_simp;done) | (go_simp;rfl));intro gb163 hg w25 hbox hb;have n0_:=Aside0.mk (blk_below (g:=gb162) (o := .cells #[.bool a0_0, .int .u32 a0_1, .bool a0_2, .int .i64 a0_3, .slice A0_4 l0_4.length c0_4] 29 (0,0)) (by (with_reducible repeat (first | refine blk_drewN ?_ _ | refine blk_drew ?_ | refine blk_alloc ?_ _));exact BK162.out) hb);have n1_:=Aside0.mk (below_step (by repeat (first | (with_reducible first | exact HB.out | apply below_alloc | apply pw_below_drewN | apply below_drew1 | refine below_set ?_ GE162.out) | exact HB.out)) hb);have n2_:=Aside0.mk (hbox);have n3_:=Aside0.mk ((by rw [hg];exact (below_size (by repeat (first | (with_reducible first | exact HB.out | apply below_alloc | apply pw_below_drewN | apply below_drew1 | refine below_set ?_ GE162.out) | exact HB.out))) : w.heap.size ≤ gb163));have n4_:=Aside0.mk ((by rw [hg];exact (below_size (by repeat (first | (with_reducible first | exact HB.out | apply below_alloc | apply pw_below_drewN | apply below_drew1 | refine below_set ?_ GE162.out) | exact HB.out))) : w.heap.size ≤ gb163));have n5_:=Aside0.mk ((by rw [hg];exact Nat.ne_of_lt (blk_lt (g:=gb162) (o := .cells #[.bool a0_0, .int .u32 a0_1, .bool a0_2, .int .i64 a0_3, .slice A0_4 l0_4.length c0_4] 29 (0,0)) (by (with_reducible repeat (first | refine blk_drewN ?_ _ | refine blk_drew ?_ | refine blk_alloc ?_ _));exact BK162.out)) : gb162 ≠ gb163));have n6_:=Aside0.mk ((by rw [hg];exact Nat.ne_of_gt (blk_lt (g:=gb162) (o := .cells #[.bool a0_0, .int .u32 a0_1, .bool a0_2, .int .i64 a0_3, .slice A0_4 l0_4.length c0_4] 29 (0,0)) (by (with_reducible repeat (first | refine blk_drewN ?_ _ | refine blk_drew ?_ | refine blk_alloc ?_ _));exact BK162.out)) : gb163 ≠ gb162));clear BK162;clear HB;have BK162:=n0_;have HB:=n1_;have BK163:=n2_;have GW163:=n3_;have GE163:=n4_;have NB162_163:=n5_;have NB163_162:=n6_;clear n0_ n1_ n2_ n3_ n4_ n5_ n6_;clear hb hbox hg;have hnb26:=NB162_163.out;have hnc26:=NB163_162.out;obtain ⟨hcz27_0,hcz27_1,hcz27_2,hcz27_3,hcz27_4⟩:=bc5 BK162.out;obtain ⟨hfz27_0,hfz27_1,hfz27_2,hfz27_3,hfz27_4⟩:=bf5 BK162.out;obtain ⟨hcz28_0,hcz28_1,hcz28_2,hcz28_3,hcz28_4⟩:=bc5 BK163.out;obtain ⟨hfz28_0,hfz28_1,hfz28_2,hfz28_3,hfz28_4⟩:=bf5 BK163.out) | ((with_reducible refine gate_callee (f:=51) rfl ?_);refine goesL_ (some 29) rfl rfl Tryd.func51 (by kernel_rfl) rfl #[.slice A0_4 l0_4.length c0_4, .slice A1_4 l1_4.length c1_4] rfl (by (try simp only [List.map_toArray,List.map_cons,List.map_nil]);first | done | rfl | (simp only [List.length_drop,List.length_take];rfl)) ?_;(with_reducible refine (laws_eqByteS.calls k _ _ l0_4 _ _ l1_4 false _ ?side1 ?side2 ?side3 ?side4 A17.out).mono ?_);(case side1 => repeat (first | exact (Kd.C_below HR0_4.out HB.out) | (with_reducible refine Kd.C_alloc ?_ _) | (with_reducible refine Kd.C_drewN ?_ _) | (with_reducible refine Kd.C_drew ?_)));(case side2 => exact HC0_4.out);(case side3 => repeat (first | exact (Kd.C_below HR1_4.out HB.out) | (with_reducible refine Kd.C_alloc ?_ _) | (with_reducible refine Kd.C_drewN ?_ _) | (with_reducible refine Kd.C_drew ?_)));(case side4 => exact HC1_4.out);rintro e w' ⟨rfl,⟨nd,rfl⟩⟩;refine ⟨_,rfl, ?_⟩))
      go_ret
      exact ⟨by first | rfl | (simp [errW_none,errW_some] <;> rfl) | (simp [*,errW_none,errW_some] <;> rfl),by repeat (first | (with_reducible first | exact HB.out | apply below_alloc | apply pw_below_drewN | apply below_drew1 | refine below_set ?_ GE162.out | refine below_set ?_ GE163.out) | exact HB.out)⟩
    ·rw [if_neg c16] at H
     have c16b0 : (a0_3 == a1_3) = false:=beq_eq_false_iff_ne.mpr c16
     have c16b1 : (a0_3 != a1_3) = true:=bne_iff_ne.mpr c16
     obtain rfl:=Option.some.inj H
     go_enter Tryd.func34,Tryd.ntmps34
     go_wp2_with (first | ((with_reducible refine gate_dst (N:=2) rfl ?_);refine box_event ?hg (N:=2) ?hd (cs := #[.bool a0_0, .int .u32 a0_1, .bool a0_2, .int .i64 a0_3, .slice A0_4 l0_4.length c0_4]) (t:=29) ?hr ?_;(case hd => rfl);(case hg => rfl);(case hr => first | (go_simp;done) | (go_simp;rfl));intro gb162 hg w29 hbox hb;have n0_:=Aside0.mk (below_step (by repeat (first | (with_reducible first | exact HB.out | apply below_alloc | apply pw_below_drewN | apply below_drew1) | exact HB.out)) hb);have n1_:=Aside0.mk (hbox);have n2_:=Aside0.mk ((by rw [hg];exact (below_size (by repeat (first | (with_reducible first | exact HB.out | apply below_alloc | apply pw_below_drewN | apply below_drew1) | exact HB.out))) : w.heap.size ≤ gb162));have n3_:=Aside0.mk ((by rw [hg];exact (below_size (by repeat (first | (with_reducible first | exact HB.out | apply below_alloc | apply pw_below_drewN | apply below_drew1) | exact HB.out))) : w.heap.size ≤ gb162));clear HB;have HB:=n0_;have BK162:=n1_;have GW162:=n2_;have GE162:=n3_;clear n0_ n1_ n2_ n3_;clear hb hbox hg) | ((with_reducible refine gate_dst (N:=3) rfl ?_);refine box_event ?hg (N:=3) ?hd (cs := #[.bool a1_0, .int .u32 a1_1, .bool a1_2, .int .i64 a1_3, .slice A1_4 l1_4.length c1_4]) (t:=29) ?hr ?_;(case hd => rfl);(case hg => rfl);(case hr => first | (go_simp;done) | (go_simp;rfl));intro gb163 hg w30 hbox hb;have n0_:=Aside0.mk (blk_below (g:=gb162) (o := .cells #[.bool a0_0, .int .u32 a0_1, .bool a0_2, .int .i64 a0_3, .slice A0_4 l0_4.length c0_4] 29 (0,0)) (by (with_reducible repeat (first | refine blk_drewN ?_ _ | refine blk_drew ?_ | refine blk_alloc ?_ _));exact BK162.out) hb);have n1_:=Aside0.mk (below_step (by repeat (first | (with_reducible first | exact HB.out | apply below_alloc | apply pw_below_drewN | apply below_drew1 | refine below_set ?_ GE162.out) | exact HB.out)) hb);have n2_:=Aside0.mk (hbox);have n3_:=Aside0.mk ((by rw [hg];exact (below_size (by repeat (first | (with_reducible first | exact HB.out | apply below_alloc | apply pw_below_drewN | apply below_drew1 | refine below_set ?_ GE162.out) | exact HB.out))) : w.heap.size ≤ gb163));have n4_:=Aside0.mk ((by rw [hg];exact (below_size (by repeat (first | (with_reducible first | exact HB.out | apply below_alloc | apply pw_below_drewN | apply below_drew1 | refine below_set ?_ GE162.out) | exact HB.out))) : w.heap.size ≤ gb163));have n5_:=Aside0.mk ((by rw [hg];exact Nat.ne_of_lt (blk_lt (g:=gb162) (o := .cells #[.bool a0_0, .int .u32 a0_1, .bool a0_2, .int .i64 a0_3, .slice A0_4 l0_4.length c0_4] 29 (0,0)) (by (with_reducible repeat (first | refine blk_drewN ?_ _ | refine blk_drew ?_ | refine blk_alloc ?_ _));exact BK162.out)) : gb162 ≠ gb163));have n6_:=Aside0.mk ((by rw [hg];exact Nat.ne_of_gt (blk_lt (g:=gb162) (o := .cells #[.bool a0_0, .int .u32 a0_1, .bool a0_2, .int .i64 a0_3, .slice A0_4 l0_4.length c0_4] 29 (0,0)) (by (with_reducible repeat (first | refine blk_drewN ?_ _ | refine blk_drew ?_ | refine blk_alloc ?_ _));exact BK162.out)) : gb163 ≠ gb162));clear BK162;clear HB;have BK162:=n0_;have HB:=n1_;have BK163:=n2_;have GW163:=n3_;have GE163:=n4_;have NB162_163:=n5_;have NB163_162:=n6_;clear n0_ n1_ n2_ n3_ n4_ n5_ n6_;clear hb hbox hg;have hnb31:=NB162_163.out;have hnc31:=NB163_162.out;obtain ⟨hcz32_0,hcz32_1,hcz32_2,hcz32_3,hcz32_4⟩:=bc5 BK162.out;obtain ⟨hfz32_0,hfz32_1,hfz32_2,hfz32_3,hfz32_4⟩:=bf5 BK162.out;obtain ⟨hcz33_0,hcz33_1,hcz33_2,hcz33_3,hcz33_4⟩:=bc5 BK163.out;obtain ⟨hfz33_0,hfz33_1,hfz33_2,hfz33_3,hfz33_4⟩:=bf5 BK163.out))
     go_ret
     exact ⟨by first | rfl | (simp [errW_none,errW_some] <;> rfl) | (simp [*,errW_none,errW_some] <;> rfl),by repeat (first | (with_reducible first | exact HB.out | apply below_alloc | apply pw_below_drewN | apply below_drew1 | refine below_set ?_ GE162.out | refine below_set ?_ GE163.out) | exact HB.out)⟩
  ·rw [if_neg c9] at H
   have c9b0 : (a0_1 == a1_1) = false:=beq_eq_false_iff_ne.mpr c9
   have c9b1 : (a0_1 != a1_1) = true:=bne_iff_ne.mpr c9
   obtain rfl:=Option.some.inj H
   go_enter Tryd.func34,Tryd.ntmps34
   go_wp2_with (first | ((with_reducible refine gate_dst (N:=2) rfl ?_);refine box_event ?hg (N:=2) ?hd (cs := #[.bool a0_0, .int .u32 a0_1, .bool a0_2, .int .i64 a0_3, .slice A0_4 l0_4.length c0_4]) (t:=29) ?hr ?_;(case hd => rfl);(case hg => rfl);(case hr => first | (go_simp;done) | (go_simp;rfl));intro gb162 hg w34 hbox hb;have n0_:=Aside0.mk (below_step (by repeat (first | (with_reducible first | exact HB.out | apply below_alloc | apply pw_below_drewN | apply below_drew1) | exact HB.out)) hb);have n1_:=Aside0.mk (hbox);have n2_:=Aside0.mk ((by rw [hg];exact (below_size (by repeat (first | (with_reducible first | exact HB.out | apply below_alloc | apply pw_below_drewN | apply below_drew1) | exact HB.out))) : w.heap.size ≤ gb162));have n3_:=Aside0.mk ((by rw [hg];exact (below_size (by repeat (first | (with_reducible first | exact HB.out | apply below_alloc | apply pw_below_drewN | apply below_drew1) | exact HB.out))) : w.heap.size ≤ gb162));clear HB;have HB:=n0_;have BK162:=n1_;have GW162:=n2_;have GE162:=n3_;clear n0_ n1_ n2_ n3_;clear hb hbox hg) | ((with_reducible refine gate_dst (N:=3) rfl ?_);refine box_event ?hg (N:=3) ?hd (cs := #[.bool a1_0, .int .u32 a1_1, .bool a1_2, .int .i64 a1_3, .slice A1_4 l1_4.length c1_4]) (t:=29) ?hr ?_;(case hd => rfl);(case hg => rfl);(case hr => first | (go_simp;done) | (go_simp;rfl));intro gb163 hg w35 hbox hb;have n0_:=Aside0.mk (blk_below (g:=gb162) (o := .cells #[.bool a0_0, .int .u32 a0_1, .bool a0_2, .int .i64 a0_3, .slice A0_4 l0_4.length c0_4] 29 (0,0)) (by (with_reducible repeat (first | refine blk_drewN ?_ _ | refine blk_drew ?_ | refine blk_alloc ?_ _));exact BK162.out) hb);have n1_:=Aside0.mk (below_step (by repeat (first | (with_reducible first | exact HB.out | apply below_alloc | apply pw_below_drewN | apply below_drew1 | refine below_set ?_ GE162.out) | exact HB.out)) hb);have n2_:=Aside0.mk (hbox);have n3_:=Aside0.mk ((by rw [hg];exact (below_size (by repeat (first | (with_reducible first | exact HB.out | apply below_alloc | apply pw_below_drewN | apply below_drew1 | refine below_set ?_ GE162.out) | exact HB.out))) : w.heap.size ≤ gb163));have n4_:=Aside0.mk ((by rw [hg];exact (below_size (by repeat (first | (with_reducible first | exact HB.out | apply below_alloc | apply pw_below_drewN | apply below_drew1 | refine below_set ?_ GE162.out) | exact HB.out))) : w.heap.size ≤ gb163));have n5_:=Aside0.mk ((by rw [hg];exact Nat.ne_of_lt (blk_lt (g:=gb162) (o := .cells #[.bool a0_0, .int .u32 a0_1, .bool a0_2, .int .i64 a0_3, .slice A0_4 l0_4.length c0_4] 29 (0,0)) (by (with_reducible repeat (first | refine blk_drewN ?_ _ | refine blk_drew ?_ | refine blk_alloc ?_ _));exact BK162.out)) : gb162 ≠ gb163));have n6_:=Aside0.mk ((by rw [hg];exact Nat.ne_of_gt (blk_lt (g:=gb162) (o := .cells #[.bool a0_0, .int .u32 a0_1, .bool a0_2, .int .i64 a0_3, .slice A0_4 l0_4.length c0_4] 29 (0,0)) (by (with_reducible repeat (first | refine blk_drewN ?_ _ | refine blk_drew ?_ | refine blk_alloc ?_ _));exact BK162.out)) : gb163 ≠ gb162));clear BK162;clear HB;have BK162:=n0_;have HB:=n1_;have BK163:=n2_;have GW163:=n3_;have GE163:=n4_;have NB162_163:=n5_;have NB163_162:=n6_;clear n0_ n1_ n2_ n3_ n4_ n5_ n6_;clear hb hbox hg;have hnb36:=NB162_163.out;have hnc36:=NB163_162.out;obtain ⟨hcz37_0,hcz37_1,hcz37_2,hcz37_3,hcz37_4⟩:=bc5 BK162.out;obtain ⟨hfz37_0,hfz37_1,hfz37_2,hfz37_3,hfz37_4⟩:=bf5 BK162.out;obtain ⟨hcz38_0,hcz38_1,hcz38_2,hcz38_3,hcz38_4⟩:=bc5 BK163.out;obtain ⟨hfz38_0,hfz38_1,hfz38_2,hfz38_3,hfz38_4⟩:=bf5 BK163.out))
   go_ret
   exact ⟨by first | rfl | (simp [errW_none,errW_some] <;> rfl) | (simp [*,errW_none,errW_some] <;> rfl),by repeat (first | (with_reducible first | exact HB.out | apply below_alloc | apply pw_below_drewN | apply below_drew1 | refine below_set ?_ GE162.out | refine below_set ?_ GE163.out) | exact HB.out)⟩
end Go.Proofs.YtdoclpgciadjaaaDoor.P

namespace Go.Proofs.YtdoclpgciadjaaaDoor.P
open Go Go.RowKit Go.Proofs.YtdoclpgciadjaaaDoorW.PrintWords
set_option linter.unusedVariables false
theorem szFrame_eq (e : Bool) (i : Int) (r : Bool) (d : Int) (l : List Int) (a : Int) (h : l.length ≤ maxLen) (h0 : 0 ≤ a) (h1 : a ≤ 1048576) : laws_szFrame.f e i r d l a = some (if a < l.length then -1 else a - l.length):=by
 unfold laws_szFrame.f
 rw [szByteS_eq l a h h0 h1,Option.bind_some]
 by_cases c : a < (l.length : Int)
 ·rw [if_pos c,if_pos (by omega)]
 ·rw [if_neg c,if_neg (by omega)]
theorem toFrame_ev (e : Bool) (i : Int) (r : Bool) (d : Int) (l : List Int) (h : l.length ≤ 10000000) : Ev (fun k => laws_toFrame.f k e i r d l) (e,i,r,d,l):=by
 refine Ev.congr (fun k => by unfold laws_toFrame.f;rfl) (Ev.bind (toByteS_ev l h) (Ev.now _))
theorem eqFrame_ev (e : Bool) (i : Int) (r : Bool) (d : Int) (l : List Int) (h : l.length ≤ 10000000) : Ev (fun k => laws_eqFrame.f k e i r d l e i r d l) true:=by
 refine Ev.congr (fun k => by unfold laws_eqFrame.f;rw [if_neg (by simp),if_pos rfl,if_neg (by simp),if_pos rfl]) (Ev.bind (f:=fun _ t => if t = true then some true else some false) (eqByteS_ev l h) (Ev.now _))
end Go.Proofs.YtdoclpgciadjaaaDoor.P

namespace Go.Proofs.YtdoclpgciadjaaaDoor.P
open Go.RowKit Go.Proofs.YtdoclpgciadjaaaDoorW.PrintWords Go.Proofs.YtdoclpgciadjaaaDoorW.PrintLast Go.Proofs.YtdoclpgciadjaaaDoorW.PrintMore
set_option linter.unusedVariables false
set_option linter.unusedSimpArgs false
def laws_markByteS.l0 : Nat → List Int → Int → Int → Option (Int × List Int)
 | 0,_,_,_ => none
 | k + 1,x0,x1,x5 => if x5 < (x0.length : Int) then (if 0 ≤ x5 then (laws_markByteS.l0 k (x0.set (x5 : Int).toNat ((x1) % 256)) (wrap64 (x1 + 1)) (wrap64 (x5 + 1))) else (none)) else (some (x1,x0))
def laws_markByteS.f (k : Nat) (l0 : List Int) (a1 : Int) : Option (Int × List Int):=laws_markByteS.l0 k l0 a1 0
set_option maxHeartbeats 8000000 in
set_option maxRecDepth 100000 in
theorem laws_markByteS.calls (k : Nat) (P0_ : Nat → Prop) (u9000_ : Value) (l0 : List Int) (a1 : Int) (r1 : Int) (r2 : List Int) (w0 w : World) (hB : Below w0.heap.size w0 w) (ho0 : Kd.R (Kd.int .u8) 5 w w0.heap.size P0_ u9000_ l0) (h : laws_markByteS.f k l0 a1 = some (r1,r2)) :
  Calls Tryd.prog 52 #[u9000_, .int .i64 a1] w fun e w' => e = .returned (.int .i64 r1) ∧ Kd.R (Kd.int .u8) 5 w' w0.heap.size (fun k_ => (P0_ k_ ∨ w.heap.size ≤ k_)) u9000_ r2 ∧ Below w0.heap.size w0 w' ∧ Kept w w' (fun k_ => P0_ k_):=by
 have HO0:=Aside0.mk (show Kd.R (Kd.int .u8) 5 w w0.heap.size (fun k_ => (P0_ k_ ∨ w.heap.size ≤ k_)) u9000_ l0 from Kd.R_mono ho0 (fun k_ hk => (.inl hk)))
 have HK:=Aside0.mk (Kept.refl w (fun k_ => P0_ k_))
 have HW0:=Aside0.mk hB.size
 have HB:=Aside0.mk hB
 clear hB
 have H : (laws_markByteS.l0 k l0 a1 0) = some (r1,r2):=h
 clear h
 have H':=Aside0.mk H
 clear H
 go_enter Tryd.func52,Tryd.ntmps52
 go_wp2
 go_loopg [1,5] k (fun kq v1 v5 w' => ∃ (x0_1 : List Int) (x1_1 : Int) (x5_1 : Int),v1 = .int .i64 x1_1 ∧ v5 = .int .i64 x5_1 ∧ Aside0 (laws_markByteS.l0 kq x0_1 x1_1 x5_1 = some (r1,r2)) ∧ Aside0 (kq ≤ k) ∧ Aside0 (Kd.R (Kd.int .u8) 5 w' w0.heap.size (fun k_ => (P0_ k_ ∨ w.heap.size ≤ k_)) u9000_ x0_1) ∧ Aside0 (Kept w w' (fun k_ => P0_ k_)) ∧ Aside0 (Below w0.heap.size w0 w'))
 case atStart => exact ⟨(l0),(a1),(0),(by first | rfl | (simp;done) | (simp [*];done)),(by first | rfl | (simp;done) | (simp [*];done)),H',⟨Nat.le_refl _⟩,⟨by (with_reducible repeat (first | apply Kd.R_alloc | apply Kd.R_drewN | apply Kd.R_drew));exact HO0.out⟩,⟨by repeat (first | (with_reducible first | exact HK.out | apply Kept.alloc | apply Kept.drewN | apply Kept.drew) | exact HK.out)⟩,⟨by repeat (first | (with_reducible first | exact HB.out | apply below_alloc | apply pw_below_drewN | apply below_drew1) | exact HB.out)⟩⟩
 case round =>
  clear H'
  try clear p2
  obtain ⟨x0_1,x1_1,x5_1,rfl,rfl,HA,HK1,HO_0,HK,HB⟩:=hrel
  cases gk with
  | zero => exact absurd HA.out (by simp [laws_markByteS.l0])
  | succ k1 =>
   have H:=HA.out
   clear HA
   simp only [laws_markByteS.l0] at H
   by_cases c3 : x5_1 < (x0_1.length : Int)
   ·rw [if_pos c3] at H
    have c3b0 : decide (x5_1 < (x0_1.length : Int)) = true:=decide_eq_true c3
    clear c3
    by_cases c4 : 0 ≤ x5_1
    ·rw [if_pos c4] at H
     have c4b0 : decide (0 ≤ x5_1) = true:=decide_eq_true c4
     clear c4
     obtain ⟨y168,hy168⟩ : ∃ y_ : List Int,y_ = (x0_1.set (x5_1 : Int).toNat ((x1_1) % 256)):=⟨_,rfl⟩
     replace H : (laws_markByteS.l0 k1 y168 (wrap64 (x1_1 + 1)) (wrap64 (x5_1 + 1))) = some (r1,r2):=by first | (rw [hy168];with_reducible exact H) | (have H2_:=(Option.bind_some _ _).symm.trans H;rw [hy168];with_reducible exact H2_) | (have H2_:=(Option.bind_some _ _).symm.trans H;with_reducible exact H2_) | with_reducible exact H | (rw [hy168];exact H) | exact H
     have Ny168:=Aside0.mk hy168
     clear hy168
     have H':=Aside0.mk H
     clear H
     obtain ⟨Ao6,co6,eo6⟩:=Kd.R_slice HO_0.out
     subst eo6
     have p5 : 0 ≤ (x5_1 : Int):=of_decide_eq_true (by first | (with_reducible assumption) | assumption)
     have q5 : (x5_1 : Int) < ((x0_1.length : Int) : Int):=of_decide_eq_true (by first | (with_reducible assumption) | assumption)
     obtain ⟨go5,co5,eo5,gb5,gl5,cl5,HG5⟩:=Kd.R_form HO_0.out (by omega)
     (first | cases eo5 | (injection eo5 with ea_ en_ ec_;(first | subst ea_ | (injection ea_ with ea_;subst ea_));subst ec_;clear en_))
     have GB5:=Aside0.mk gb5
     have GG5:=Aside0.mk HG5
     clear gb5 gl5 HG5
     have HMgo5:=Aside0.mk (show (P0_ go5 ∨ w.heap.size ≤ go5) from (HO_0.out.1 _ rfl))
     obtain ⟨hx5_0,hf5_0⟩:=Kd.R_celln 0 HO_0.out (x5_1 : Int) p5 q5
     replace p5:=eq_true p5
     replace q5:=eq_true q5
     have HP7:=Kd.R_putg HO_0.out (x5_1 : Int) ((x1_1) % 256)
     go_wp2_with (first | ((with_reducible refine gate_store (t:=5) (p:=16) rfl ?_);refine store_event (t:=5) (p:=16) (v := ?vo_w8) (w1:=(wr.setCell ⟨go5,(x5_1 : Int).toNat,none⟩ (.int .u8 ((x1_1) % 256)))) ?hg ?ho ?hn ?hr ?_;(case ho => rfl);(case hg => rfl);(case hn => rfl);(case hr => first | (go_simp;done) | (go_simp;rfl));intro w8 hw;have hg : wr.grownBy w8 (some go5):=(by rw [hw];exact HP7.2);have hp_ : Kd.R (Kd.int .u8) 5 w8 w0.heap.size (fun k_ => (P0_ k_ ∨ w.heap.size ≤ k_)) (.slice (some ⟨go5,0,none⟩) x0_1.length co6) y168:=(by rw [hw,Ny168.out];exact HP7.1);clear HP7;have n0_:=Aside0.mk (hp_);have n1_:=Aside0.mk ((by rw [hw];exact below_set (HB.out) GB5.out : Below w0.heap.size w0 w8));have n2_:=Aside0.mk (Kept.of_grown (S:=(fun k_ => P0_ k_)) hg (by repeat (first | (with_reducible first | exact HK.out | apply Kept.alloc | apply Kept.drewN | apply Kept.drew) | exact HK.out)) (fun k_ e_ => (HO_0.out.1 k_ e_)));clear HO_0;clear HB;clear HK;have HO_0:=n0_;have HB:=n1_;have HK:=n2_;clear n0_ n1_ n2_;clear hg hw hp_))
     go_roundg k1
     case measure => have:=HK1.out;omega
     case rel => exact ⟨(y168),(wrap64 (x1_1 + 1)),(wrap64 (x5_1 + 1)),(by first | rfl | (simp;done) | (simp [*];done)),(by first | rfl | (simp;done) | (simp [*];done)),H',⟨by have:=HK1.out;omega⟩,⟨by (with_reducible repeat (first | apply Kd.R_alloc | apply Kd.R_drewN | apply Kd.R_drew));exact HO_0.out⟩,⟨by repeat (first | (with_reducible first | exact HK.out | apply Kept.alloc | apply Kept.drewN | apply Kept.drew) | exact HK.out)⟩,⟨by repeat (first | (with_reducible first | exact HB.out | apply below_alloc | apply pw_below_drewN | apply below_drew1) | exact HB.out)⟩⟩
    ·rw [if_neg c4] at H
     exact absurd H (by simp)
   ·rw [if_neg c3] at H
    have c3b0 : decide (x5_1 < (x0_1.length : Int)) = false:=decide_eq_false c3
    clear c3
    simp only [Option.some.injEq,Prod.mk.injEq] at H
    obtain ⟨rfl,rfl⟩:=H
    obtain ⟨Ao9,co9,eo9⟩:=Kd.R_slice HO_0.out
    subst eo9
    go_wp2
    go_ret
    exact ⟨by first | rfl | (simp [errW_none,errW_some] <;> rfl) | (simp [*,errW_none,errW_some] <;> rfl),by (with_reducible repeat (first | apply Kd.R_alloc | apply Kd.R_drewN | apply Kd.R_drew));exact HO_0.out,by repeat (first | (with_reducible first | exact HB.out | apply below_alloc | apply pw_below_drewN | apply below_drew1) | exact HB.out),by repeat (first | (with_reducible first | exact HK.out | apply Kept.alloc | apply Kept.drewN | apply Kept.drew) | exact HK.out)⟩
end Go.Proofs.YtdoclpgciadjaaaDoor.P

namespace Go.Proofs.YtdoclpgciadjaaaDoor.P
open Go.RowKit Go.Proofs.YtdoclpgciadjaaaDoorW.PrintWords Go.Proofs.YtdoclpgciadjaaaDoorW.PrintLast Go.Proofs.YtdoclpgciadjaaaDoorW.PrintMore
set_option linter.unusedVariables false
set_option linter.unusedSimpArgs false
def laws_markFrame.f (k : Nat) (a0_0 : Bool) (a0_1 : Int) (a0_2 : Bool) (a0_3 : Int) (l0_4 : List Int) (a1 : Int) : Option (Int × List Int):=(laws_markByteS.f k l0_4 a1).bind fun bt170 => (some (bt170.1,bt170.2))
set_option maxHeartbeats 8000000 in
set_option maxRecDepth 100000 in
theorem laws_markFrame.calls (k : Nat) (a0_0 : Bool) (a0_1 : Int) (a0_2 : Bool) (a0_3 : Int) (P0_4_ : Nat → Prop) (u9000_ : Value) (l0_4 : List Int) (a1 : Int) (r1 : Int) (r2 : List Int) (w0 w : World) (hB : Below w0.heap.size w0 w) (ho0_4 : Kd.R (Kd.int .u8) 5 w w0.heap.size P0_4_ u9000_ l0_4) (h : laws_markFrame.f k a0_0 a0_1 a0_2 a0_3 l0_4 a1 = some (r1,r2)) :
  Calls Tryd.prog 35 #[.agg #[.bool a0_0, .int .u32 a0_1, .bool a0_2, .int .i64 a0_3,u9000_], .int .i64 a1] w fun e w' => e = .returned (.int .i64 r1) ∧ Kd.R (Kd.int .u8) 5 w' w0.heap.size (fun k_ => (P0_4_ k_ ∨ w.heap.size ≤ k_)) u9000_ r2 ∧ Below w0.heap.size w0 w' ∧ Kept w w' (fun k_ => P0_4_ k_):=by
 have hu29:=Tryd.underlying29
 have HO0_4:=Aside0.mk (show Kd.R (Kd.int .u8) 5 w w0.heap.size (fun k_ => (P0_4_ k_ ∨ w.heap.size ≤ k_)) u9000_ l0_4 from Kd.R_mono ho0_4 (fun k_ hk => (.inl hk)))
 have HK:=Aside0.mk (Kept.refl w (fun k_ => P0_4_ k_))
 have HW0:=Aside0.mk hB.size
 have HB:=Aside0.mk hB
 clear hB
 have H : ((laws_markByteS.f k l0_4 a1).bind fun bt170 => (some (bt170.1,bt170.2))) = some (r1,r2):=h
 clear h
 replace H:=Option.bind_eq_some_iff.mp H
 obtain ⟨⟨t170,t171⟩,A30,H⟩:=H
 replace H : (some (t170,t171)) = some (r1,r2):=H
 have A3:=Aside0.mk A30
 clear A30
 simp only [Option.some.injEq,Prod.mk.injEq] at H
 obtain ⟨rfl,rfl⟩:=H
 obtain ⟨Ao4,co4,eo4⟩:=Kd.R_slice HO0_4.out
 subst eo4
 go_enter Tryd.func35,Tryd.ntmps35
 go_wp2_with (first | ((with_reducible refine gate_dst (N:=2) rfl ?_);refine box_event ?hg (N:=2) ?hd (cs := #[.bool a0_0, .int .u32 a0_1, .bool a0_2, .int .i64 a0_3, .slice Ao4 l0_4.length co4]) (t:=29) ?hr ?_;(case hd => rfl);(case hg => rfl);(case hr => first | (go_simp;done) | (go_simp;rfl));intro gb169 hg w5 hbox hb;have n0_:=Aside0.mk (Kd.R_below (by (with_reducible repeat (first | apply Kd.R_alloc | apply Kd.R_drewN | apply Kd.R_drew));exact HO0_4.out) hb);have n1_:=Aside0.mk (Kept.below (S:=(fun k_ => P0_4_ k_)) (by repeat (first | (with_reducible first | exact HK.out | apply Kept.alloc | apply Kept.drewN | apply Kept.drew) | exact HK.out)) hb);have n2_:=Aside0.mk (below_step (by repeat (first | (with_reducible first | exact HB.out | apply below_alloc | apply pw_below_drewN | apply below_drew1) | exact HB.out)) hb);have n3_:=Aside0.mk (hbox);have n4_:=Aside0.mk ((by rw [hg];exact (by first | exact HK.out.1 | exact (show Kept w _ (fun k_ => P0_4_ k_) from by repeat (first | (with_reducible first | exact HK.out | apply Kept.alloc | apply Kept.drewN | apply Kept.drew) | exact HK.out)).1) : w.heap.size ≤ gb169));have n5_:=Aside0.mk ((by rw [hg];exact (below_size (by repeat (first | (with_reducible first | exact HB.out | apply below_alloc | apply pw_below_drewN | apply below_drew1) | exact HB.out))) : w0.heap.size ≤ gb169));clear HO0_4;clear HK;clear HB;have HO0_4:=n0_;have HK:=n1_;have HB:=n2_;have BK169:=n3_;have GW169:=n4_;have GE169:=n5_;clear n0_ n1_ n2_ n3_ n4_ n5_;clear hb hbox hg;obtain ⟨hcz6_0,hcz6_1,hcz6_2,hcz6_3,hcz6_4⟩:=bc5 BK169.out;obtain ⟨hfz6_0,hfz6_1,hfz6_2,hfz6_3,hfz6_4⟩:=bf5 BK169.out) | ((with_reducible refine gate_callee (f:=52) rfl ?_);refine goesL_ (some 8) rfl rfl Tryd.func52 (by kernel_rfl) rfl #[.slice Ao4 l0_4.length co4, .int .i64 a1] rfl (by (try simp only [List.map_toArray,List.map_cons,List.map_nil]);first | done | rfl | (simp only [List.length_drop,List.length_take];rfl)) ?_;(with_reducible refine (laws_markByteS.calls k (fun k_ => some k_ = (.slice Ao4 l0_4.length co4 : Value).ownBlock) (.slice Ao4 l0_4.length co4) l0_4 a1 t170 t171 w0 _ ?side1 ?side2 A3.out).mono ?_);(case side1 => repeat (first | (with_reducible first | exact HB.out | apply below_alloc | apply pw_below_drewN | apply below_drew1 | refine below_set ?_ GE169.out) | exact HB.out));(case side2 => exact Kd.R_tight rfl HO0_4.out);rintro e w7 ⟨rfl,hy0,hb,hkp⟩;refine ⟨_,rfl, ?_⟩;have n0_:=Aside0.mk (Kd.R_reok rfl hy0 (fun k_ e_ => HO0_4.out.1 k_ e_));have n1_:=Aside0.mk (blk_kept (by (with_reducible repeat (first | refine blk_drewN ?_ _ | refine blk_drew ?_ | refine blk_alloc ?_ _));exact BK169.out) hkp (fun hs_ => (fun e_ => (Kd.R_ne HO0_4.out BK169.out (by decide)) e_) hs_));have n2_:=Aside0.mk (Kept.then_ (S:=(fun k_ => P0_4_ k_)) (by repeat (first | (with_reducible first | exact HK.out | apply Kept.alloc | apply Kept.drewN | apply Kept.drew | refine Kept.setCell ?_ (.inr GW169.out) _) | exact HK.out)) hkp (fun k_ hs_ => (fun e_ => (HO0_4.out.1 k_ e_.symm)) hs_));have n3_:=Aside0.mk (hb);clear HO0_4;clear BK169;clear HK;clear HB;have HO0_4:=n0_;have BK169:=n1_;have HK:=n2_;have HB:=n3_;clear n0_ n1_ n2_ n3_;(try clear hb);(try clear hkp);(try clear hy0)))
 go_ret
 exact ⟨by first | rfl | (simp [errW_none,errW_some] <;> rfl) | (simp [*,errW_none,errW_some] <;> rfl),by (with_reducible repeat (first | apply Kd.R_alloc | apply Kd.R_drewN | apply Kd.R_drew));exact HO0_4.out,by repeat (first | (with_reducible first | exact HB.out | apply below_alloc | apply pw_below_drewN | apply below_drew1 | refine below_set ?_ GE169.out) | exact HB.out),by repeat (first | (with_reducible first | exact HK.out | apply Kept.alloc | apply Kept.drewN | apply Kept.drew | refine Kept.setCell ?_ (.inr GW169.out) _) | exact HK.out)⟩
end Go.Proofs.YtdoclpgciadjaaaDoor.P

namespace Go.Proofs.YtdoclpgciadjaaaDoor.P
open Go Go.RowKit Go.Proofs.YtdoclpgciadjaaaDoorW.PrintWords
set_option linter.unusedVariables false
end Go.Proofs.YtdoclpgciadjaaaDoor.P

namespace Go.Proofs.YtdoclpgciadjaaaDoor.P
open Go.RowKit Go.Proofs.YtdoclpgciadjaaaDoorW.PrintWords Go.Proofs.YtdoclpgciadjaaaDoorW.PrintLast Go.Proofs.YtdoclpgciadjaaaDoorW.PrintMore
set_option linter.unusedVariables false
set_option linter.unusedSimpArgs false
def laws_heldByteS.l0 : Nat → List Int → Int → Int → Option (Int)
 | 0,_,_,_ => none
 | k + 1,x0,x1,x5 => if x5 < (x0.length : Int) then (if 0 ≤ x5 then (if (rd x0 x5) = ((x1) % 256) then (laws_heldByteS.l0 k x0 (wrap64 (x1 + 1)) (wrap64 (x5 + 1))) else (some (-1))) else (none)) else (some x1)
def laws_heldByteS.f (k : Nat) (l0 : List Int) (a1 : Int) : Option (Int):=laws_heldByteS.l0 k l0 a1 0
set_option maxHeartbeats 8000000 in
set_option maxRecDepth 100000 in
theorem laws_heldByteS.calls (k : Nat) (A0 : Option Addr) (c0 : Nat) (l0 : List Int) (a1 : Int) (r : Int) (w : World) (hr0 : Kd.C (Kd.int .u8) w A0 l0.length l0) (hc0 : l0.length ≤ c0) (h : laws_heldByteS.f k l0 a1 = some r) :
  Calls Tryd.prog 53 #[.slice A0 l0.length c0, .int .i64 a1] w fun e w' => e = .returned (.int .i64 r) ∧ Drawn0 w w':=by
 have HR0:=Aside0.mk hr0
 have HC0:=Aside0.mk hc0
 clear hr0 hc0
 have H : (laws_heldByteS.l0 k l0 a1 0) = some r:=h
 clear h
 have H':=Aside0.mk H
 clear H
 go_enter Tryd.func53,Tryd.ntmps53
 go_wp2
 go_loopg [1,5] k (fun kq v1 v5 w' => ∃ (x1_1 : Int) (x5_1 : Int),v1 = .int .i64 x1_1 ∧ v5 = .int .i64 x5_1 ∧ Aside0 (laws_heldByteS.l0 kq l0 x1_1 x5_1 = some r) ∧ Aside0 (kq ≤ k) ∧ Drawn0 w w')
 case atStart => exact ⟨(a1),(0),(by first | rfl | (simp;done) | (simp [*];done)),(by first | rfl | (simp;done) | (simp [*];done)),H',⟨Nat.le_refl _⟩,by repeat (first | exact Drawn0.refl _ | apply Drawn0.step)⟩
 case round =>
  clear H'
  try clear p2
  obtain ⟨x1_1,x5_1,rfl,rfl,HA,HK1,⟨m1,rfl⟩⟩:=hrel
  cases gk with
  | zero => exact absurd HA.out (by simp [laws_heldByteS.l0])
  | succ k1 =>
   have H:=HA.out
   clear HA
   simp only [laws_heldByteS.l0] at H
   by_cases c3 : x5_1 < (l0.length : Int)
   ·rw [if_pos c3] at H
    have c3b0 : decide (x5_1 < (l0.length : Int)) = true:=decide_eq_true c3
    clear c3
    by_cases c4 : 0 ≤ x5_1
    ·rw [if_pos c4] at H
     have c4b0 : decide (0 ≤ x5_1) = true:=decide_eq_true c4
     clear c4
     by_cases c5 : (rd l0 x5_1) = ((x1_1) % 256)
     ·rw [if_pos c5] at H
      have c5b0 : ((rd l0 x5_1) == ((x1_1) % 256)) = true:=beq_iff_eq.mpr c5
      have c5b1 : ((rd l0 x5_1) != ((x1_1) % 256)) = false:=bne_eq_false_iff_eq.mpr c5
      clear c5
      have H':=Aside0.mk H
      clear H
      have p175 : 0 ≤ (x5_1 : Int):=of_decide_eq_true (by first | (with_reducible assumption) | assumption)
      have q175 : x5_1 < (l0.length : Int):=of_decide_eq_true (by first | (with_reducible assumption) | assumption)
      obtain ⟨ad175,e175,hx175_0⟩:=Kd.at_int HR0.out x5_1 p175 q175
      cases e175
      replace p175:=eq_true p175
      replace q175:=eq_true q175
      go_wp2
      go_roundg k1
      case measure => have:=HK1.out;omega
      case rel => exact ⟨(wrap64 (x1_1 + 1)),(wrap64 (x5_1 + 1)),(by first | rfl | (simp;done) | (simp [*];done)),(by first | rfl | (simp;done) | (simp [*];done)),H',⟨by have:=HK1.out;omega⟩,by repeat (first | exact Drawn0.refl _ | apply Drawn0.step)⟩
     ·rw [if_neg c5] at H
      have c5b0 : ((rd l0 x5_1) == ((x1_1) % 256)) = false:=beq_eq_false_iff_ne.mpr c5
      have c5b1 : ((rd l0 x5_1) != ((x1_1) % 256)) = true:=bne_iff_ne.mpr c5
      obtain rfl:=Option.some.inj H
      have p175 : 0 ≤ (x5_1 : Int):=of_decide_eq_true (by first | (with_reducible assumption) | assumption)
      have q175 : x5_1 < (l0.length : Int):=of_decide_eq_true (by first | (with_reducible assumption) | assumption)
      obtain ⟨ad175,e175,hx175_0⟩:=Kd.at_int HR0.out x5_1 p175 q175
      cases e175
      replace p175:=eq_true p175
      replace q175:=eq_true q175
      go_wp2
      go_ret
      exact ⟨by first | rfl | (simp;done) | (simp [*];done),by repeat (first | exact Drawn0.refl _ | apply Drawn0.step)⟩
    ·rw [if_neg c4] at H
     exact absurd H (by simp)
   ·rw [if_neg c3] at H
    have c3b0 : decide (x5_1 < (l0.length : Int)) = false:=decide_eq_false c3
    clear c3
    obtain rfl:=Option.some.inj H
    go_wp2
    go_ret
    exact ⟨by first | rfl | (simp;done) | (simp [*];done),by repeat (first | exact Drawn0.refl _ | apply Drawn0.step)⟩
end Go.Proofs.YtdoclpgciadjaaaDoor.P

namespace Go.Proofs.YtdoclpgciadjaaaDoor.P
open Go.RowKit Go.Proofs.YtdoclpgciadjaaaDoorW.PrintWords Go.Proofs.YtdoclpgciadjaaaDoorW.PrintLast Go.Proofs.YtdoclpgciadjaaaDoorW.PrintMore
set_option linter.unusedVariables false
set_option linter.unusedSimpArgs false
def laws_heldFrame.f (k : Nat) (a0_0 : Bool) (a0_1 : Int) (a0_2 : Bool) (a0_3 : Int) (l0_4 : List Int) (a1 : Int) : Option (Int):=(laws_heldByteS.f k l0_4 a1).bind fun t177 => (if t177 < 0 then (some (-1)) else (some t177))
set_option maxHeartbeats 8000000 in
set_option maxRecDepth 100000 in
theorem laws_heldFrame.calls (k : Nat) (a0_0 : Bool) (a0_1 : Int) (a0_2 : Bool) (a0_3 : Int) (A0_4 : Option Addr) (c0_4 : Nat) (l0_4 : List Int) (a1 : Int) (r : Int) (w : World) (hr0_4 : Kd.C (Kd.int .u8) w A0_4 l0_4.length l0_4) (hc0_4 : l0_4.length ≤ c0_4) (h : laws_heldFrame.f k a0_0 a0_1 a0_2 a0_3 l0_4 a1 = some r) :
  Calls Tryd.prog 36 #[.agg #[.bool a0_0, .int .u32 a0_1, .bool a0_2, .int .i64 a0_3, .slice A0_4 l0_4.length c0_4], .int .i64 a1] w fun e w' => e = .returned (.int .i64 r) ∧ Below w.heap.size w w':=by
 have hu29:=Tryd.underlying29
 have HR0_4:=Aside0.mk hr0_4
 have HC0_4:=Aside0.mk hc0_4
 clear hr0_4 hc0_4
 have HB:=Aside0.mk (Below.refl w.heap.size w)
 have H : ((laws_heldByteS.f k l0_4 a1).bind fun t177 => (if t177 < 0 then (some (-1)) else (some t177))) = some r:=h
 clear h
 replace H:=Option.bind_eq_some_iff.mp H
 obtain ⟨t177,A30,H⟩:=H
 replace H : (if t177 < 0 then (some (-1)) else (some t177)) = some r:=H
 have A3:=Aside0.mk A30
 clear A30
 by_cases c4 : t177 < 0
 ·rw [if_pos c4] at H
  have c4b0 : decide (t177 < 0) = true:=decide_eq_true c4
  clear c4
  obtain rfl:=Option.some.inj H
  go_enter Tryd.func36,Tryd.ntmps36
  go_wp2_with (first | ((with_reducible refine gate_dst (N:=2) rfl ?_);refine box_event ?hg (N:=2) ?hd (cs := #[.bool a0_0, .int .u32 a0_1, .bool a0_2, .int .i64 a0_3, .slice A0_4 l0_4.length c0_4]) (t:=29) ?hr ?_;(case hd => rfl);(case hg => rfl);(case hr => first | (go_simp;done) | (go_simp;rfl));intro gb176 hg w5 hbox hb;have n0_:=Aside0.mk (below_step (by repeat (first | (with_reducible first | exact HB.out | apply below_alloc | apply pw_below_drewN | apply below_drew1) | exact HB.out)) hb);have n1_:=Aside0.mk (hbox);have n2_:=Aside0.mk ((by rw [hg];exact (below_size (by repeat (first | (with_reducible first | exact HB.out | apply below_alloc | apply pw_below_drewN | apply below_drew1) | exact HB.out))) : w.heap.size ≤ gb176));have n3_:=Aside0.mk ((by rw [hg];exact (below_size (by repeat (first | (with_reducible first | exact HB.out | apply below_alloc | apply pw_below_drewN | apply below_drew1) | exact HB.out))) : w.heap.size ≤ gb176));clear HB;have HB:=n0_;have BK176:=n1_;have GW176:=n2_;have GE176:=n3_;clear n0_ n1_ n2_ n3_;clear hb hbox hg;obtain ⟨hcz6_0,hcz6_1,hcz6_2,hcz6_3,hcz6_4⟩:=bc5 BK176.out;obtain ⟨hfz6_0,hfz6_1,hfz6_2,hfz6_3,hfz6_4⟩:=bf5 BK176.out) | ((with_reducible refine gate_callee (f:=53) rfl ?_);refine goesL_ (some 8) rfl rfl Tryd.func53 (by kernel_rfl) rfl #[.slice A0_4 l0_4.length c0_4, .int .i64 a1] rfl (by (try simp only [List.map_toArray,List.map_cons,List.map_nil]);first | done | rfl | (simp only [List.length_drop,List.length_take];rfl)) ?_;(with_reducible refine (laws_heldByteS.calls k _ _ l0_4 a1 t177 _ ?side1 ?side2 A3.out).mono ?_);(case side1 => repeat (first | exact (Kd.C_below HR0_4.out HB.out) | (with_reducible refine Kd.C_alloc ?_ _) | (with_reducible refine Kd.C_drewN ?_ _) | (with_reducible refine Kd.C_drew ?_)));(case side2 => exact HC0_4.out);rintro e w' ⟨rfl,⟨nd,rfl⟩⟩;refine ⟨_,rfl, ?_⟩))
  go_ret
  exact ⟨by first | rfl | (simp [errW_none,errW_some] <;> rfl) | (simp [*,errW_none,errW_some] <;> rfl),by repeat (first | (with_reducible first | exact HB.out | apply below_alloc | apply pw_below_drewN | apply below_drew1 | refine below_set ?_ GE176.out) | exact HB.out)⟩
 ·rw [if_neg c4] at H
  have c4b0 : decide (t177 < 0) = false:=decide_eq_false c4
  clear c4
  obtain rfl:=Option.some.inj H
  go_enter Tryd.func36,Tryd.ntmps36
  go_wp2_with (first | ((with_reducible refine gate_dst (N:=2) rfl ?_);refine box_event ?hg (N:=2) ?hd (cs := #[.bool a0_0, .int .u32 a0_1, .bool a0_2, .int .i64 a0_3, .slice A0_4 l0_4.length c0_4]) (t:=29) ?hr ?_;(case hd => rfl);(case hg => rfl);(case hr => first | (go_simp;done) | (go_simp;rfl));intro gb176 hg w7 hbox hb;have n0_:=Aside0.mk (below_step (by repeat (first | (with_reducible first | exact HB.out | apply below_alloc | apply pw_below_drewN | apply below_drew1) | exact HB.out)) hb);have n1_:=Aside0.mk (hbox);have n2_:=Aside0.mk ((by rw [hg];exact (below_size (by repeat (first | (with_reducible first | exact HB.out | apply below_alloc | apply pw_below_drewN | apply below_drew1) | exact HB.out))) : w.heap.size ≤ gb176));have n3_:=Aside0.mk ((by rw [hg];exact (below_size (by repeat (first | (with_reducible first | exact HB.out | apply below_alloc | apply pw_below_drewN | apply below_drew1) | exact HB.out))) : w.heap.size ≤ gb176));clear HB;have HB:=n0_;have BK176:=n1_;have GW176:=n2_;have GE176:=n3_;clear n0_ n1_ n2_ n3_;clear hb hbox hg;obtain ⟨hcz8_0,hcz8_1,hcz8_2,hcz8_3,hcz8_4⟩:=bc5 BK176.out;obtain ⟨hfz8_0,hfz8_1,hfz8_2,hfz8_3,hfz8_4⟩:=bf5 BK176.out) | ((with_reducible refine gate_callee (f:=53) rfl ?_);refine goesL_ (some 8) rfl rfl Tryd.func53 (by kernel_rfl) rfl #[.slice A0_4 l0_4.length c0_4, .int .i64 a1] rfl (by (try simp only [List.map_toArray,List.map_cons,List.map_nil]);first | done | rfl | (simp only [List.length_drop,List.length_take];rfl)) ?_;(with_reducible refine (laws_heldByteS.calls k _ _ l0_4 a1 t177 _ ?side1 ?side2 A3.out).mono ?_);(case side1 => repeat (first | exact (Kd.C_below HR0_4.out HB.out) | (with_reducible refine Kd.C_alloc ?_ _) | (with_reducible refine Kd.C_drewN ?_ _) | (with_reducible refine Kd.C_drew ?_)));(case side2 => exact HC0_4.out);rintro e w' ⟨rfl,⟨nd,rfl⟩⟩;refine ⟨_,rfl, ?_⟩))
  go_ret
  exact ⟨by first | rfl | (simp [errW_none,errW_some] <;> rfl) | (simp [*,errW_none,errW_some] <;> rfl),by repeat (first | (with_reducible first | exact HB.out | apply below_alloc | apply pw_below_drewN | apply below_drew1 | refine below_set ?_ GE176.out) | exact HB.out)⟩
end Go.Proofs.YtdoclpgciadjaaaDoor.P

namespace Go.Proofs.YtdoclpgciadjaaaDoor.P
open Go Go.RowKit Go.Proofs.YtdoclpgciadjaaaDoorW.PrintWords
set_option linter.unusedVariables false
def marks (a : Int) : Nat → List Int
 | 0 => []
 | n + 1 => a % 256 :: marks (a + 1) n
theorem marks_length (n : Nat) : ∀ a,(marks a n).length = n:=by
 induction n with
 | zero => intro a;rfl
 | succ n ih => intro a;rw [marks,List.length_cons,ih]
theorem marks_get (n : Nat) : ∀ (a : Int) (i : Nat),i < n → (marks a n)[i]? = some ((a + i) % 256):=by
 induction n with
 | zero => intro a i h;omega
 | succ n ih =>
  intro a i h
  cases i with
  | zero => simp [marks]
  | succ i =>
   rw [marks,List.getElem?_cons_succ,ih (a + 1) i (by omega)]
   congr 2;push_cast;omega
theorem markByteS_ev (l : List Int) (hl : l.length ≤ 10000000) (a : Int) (h0 : 0 ≤ a) (h1 : a ≤ 100000000) : Ev (fun m => laws_markByteS.f m l a) (a + (l.length : Int),marks a l.length):=by
 have loop : ∀ (d i : Nat) (x : List Int),i + d = l.length → x.length = l.length → (∀ t,t < i → x[t]? = (marks a l.length)[t]?) → Ev (fun m => laws_markByteS.l0 m x (a + (i : Int)) (i : Int)) (a + (l.length : Int),marks a l.length):=by
  intro d
  induction d with
  | zero =>
   intro i x hi hx hs
   have e : x = marks a l.length:=by
    apply List.ext_getElem?
    intro t
    by_cases c : t < l.length
    ·exact hs t (by omega)
    ·rw [List.getElem?_eq_none (by omega),List.getElem?_eq_none (by rw [marks_length];omega)]
   refine Ev.step (f:=fun _ => some (a + (l.length : Int),marks a l.length)) (fun m => ?_) (Ev.now _)
   simp only [laws_markByteS.l0]
   rw [if_neg (by omega),show i = l.length by omega,e]
  | succ d ih =>
   intro i x hi hx hs
   refine Ev.step (f:=fun m => laws_markByteS.l0 m (x.set i ((a + (i : Int)) % 256)) (a + ((i + 1 : Nat) : Int)) ((i + 1 : Nat) : Int)) (fun m => ?_) (ih (i + 1) _ (by omega) (by rw [List.length_set];exact hx) (fun t ht => ?_))
   ·simp only [laws_markByteS.l0]
    rw [if_pos (by omega),if_pos (by omega),w64 (x:=a + (i : Int) + 1) (by omega) (by omega),w64 (x:=(i : Int) + 1) (by omega) (by omega),Int.toNat_natCast,show a + (i : Int) + 1 = a + ((i + 1 : Nat) : Int) by omega]
    rfl
   ·rw [List.getElem?_set]
    by_cases e : i = t
    ·subst e;rw [if_pos rfl,if_pos (by omega),marks_get _ _ _ (by omega)]
    ·rw [if_neg e];exact hs t (by omega)
 refine Ev.congr (fun m => by unfold laws_markByteS.f;rfl) (by have:=loop l.length 0 l (by omega) rfl (fun t ht => by omega);simpa using this)
theorem heldByteS_ev (n : Nat) (hn : n ≤ 10000000) (a : Int) (h0 : 0 ≤ a) (h1 : a ≤ 100000000) : Ev (fun m => laws_heldByteS.f m (marks a n) a) (a + (n : Int)):=by
 have loop : ∀ (d i : Nat),i + d = n → Ev (fun m => laws_heldByteS.l0 m (marks a n) (a + (i : Int)) (i : Int)) (a + (n : Int)):=by
  intro d
  induction d with
  | zero =>
   intro i hi
   refine Ev.step (f:=fun _ => some (a + (n : Int))) (fun m => ?_) (Ev.now _)
   simp only [laws_heldByteS.l0]
   rw [if_neg (by rw [marks_length];omega),show i = n by omega]
  | succ d ih =>
   intro i hi
   have hr : rd (marks a n) (i : Int) = (a + (i : Int)) % 256:=by
    have h1:=rd_get (marks a n) i (by rw [marks_length];omega)
    rw [marks_get _ _ _ (by omega)] at h1
    exact (Option.some.inj h1).symm
   refine Ev.step (f:=fun m => laws_heldByteS.l0 m (marks a n) (a + ((i + 1 : Nat) : Int)) ((i + 1 : Nat) : Int)) (fun m => ?_) (ih (i + 1) (by omega))
   simp only [laws_heldByteS.l0]
   rw [if_pos (by rw [marks_length];omega),if_pos (by omega),if_pos hr,w64 (x:=a + (i : Int) + 1) (by omega) (by omega),w64 (x:=(i : Int) + 1) (by omega) (by omega),show a + (i : Int) + 1 = a + ((i + 1 : Nat) : Int) by omega]
   rfl
 refine Ev.congr (fun m => by unfold laws_heldByteS.f;rfl) (by have:=loop n 0 (by omega);simpa using this)
theorem markFrame_ev (e : Bool) (i : Int) (r : Bool) (d : Int) (l : List Int) (hl : l.length ≤ 10000000) (a : Int) (h0 : 0 ≤ a) (h1 : a ≤ 100000000) : Ev (fun m => laws_markFrame.f m e i r d l a) (a + (l.length : Int),marks a l.length):=by
 unfold laws_markFrame.f
 exact Ev.bind (markByteS_ev l hl a h0 h1) (Ev.now _)
theorem heldFrame_ev (e : Bool) (i : Int) (r : Bool) (d : Int) (n : Nat) (hn : n ≤ 10000000) (a : Int) (h0 : 0 ≤ a) (h1 : a ≤ 100000000) : Ev (fun m => laws_heldFrame.f m e i r d (marks a n) a) (a + (n : Int)):=by
 unfold laws_heldFrame.f
 exact Ev.bind (heldByteS_ev n hn a h0 h1) (ev_neg (by omega) (Ev.now _))
end Go.Proofs.YtdoclpgciadjaaaDoor.P

namespace Go.Proofs.YtdoclpgciadjaaaDoor.P
open Go Go.RowKit Go.Proofs.YtdoclpgciadjaaaDoorW.PrintWords
set_option linter.unusedVariables false
structure Tch (w w' : World) (S : Nat → Prop) : Prop where
 os : w'.os = w.os
 tape : w'.tape = w.tape
 output : w'.output = w.output
 kept : Kept w w' S
theorem Tch.refl (w : World) (S : Nat → Prop) : Tch w w S:=⟨rfl,rfl,rfl,Kept.refl w S⟩
theorem Tch.size {w w' : World} {S : Nat → Prop} (h : Tch w w' S) : w.heap.size ≤ w'.heap.size:=h.kept.1
theorem Tch.block {w w' : World} {S : Nat → Prop} (h : Tch w w' S) {k : Nat} (hk : k < w.heap.size) (hn : ¬ S k) : w'.heap[k]? = w.heap[k]?:=h.kept.2 k hk hn
theorem Tch.mono {w w' : World} {S S' : Nat → Prop} (h : Tch w w' S) (hs : ∀ k,S k → S' k) : Tch w w' S':=⟨h.os,h.tape,h.output,h.kept.mono hs⟩
theorem Tch.then_ {w w1 w2 : World} {S S2 : Nat → Prop} (h : Tch w w1 S) (k : Tch w1 w2 S2) (hs : ∀ k,S2 k → S k ∨ w.heap.size ≤ k) : Tch w w2 S:=⟨k.os.trans h.os,k.tape.trans h.tape,k.output.trans h.output,h.kept.then_ k.kept hs⟩
theorem Tch.trans {w w1 w2 : World} {S : Nat → Prop} (h : Tch w w1 S) (k : Tch w1 w2 S) : Tch w w2 S:=h.then_ k fun _ h => .inl h
theorem Tch.drewN {w w1 : World} {S : Nat → Prop} (h : Tch w w1 S) (m : Nat) : Tch w (w1.drewN m) S:=⟨h.os,h.tape,h.output,h.kept.drewN m⟩
theorem Tch.drew {w w1 : World} {S : Nat → Prop} (h : Tch w w1 S) : Tch w w1.drew S:=⟨h.os,h.tape,h.output,h.kept.drew⟩
theorem Tch.alloc {w w1 : World} {S : Nat → Prop} (h : Tch w w1 S) (o : Obj) : Tch w (w1.alloc o) S:=⟨h.os,h.tape,h.output,h.kept.alloc o⟩
theorem Tch.setCell {w w1 : World} {S : Nat → Prop} (h : Tch w w1 S) {p : Addr} (hp : S p.block ∨ w.heap.size ≤ p.block) (u : Value) : Tch w (w1.setCell p u) S:=⟨h.os,h.tape,h.output,h.kept.setCell hp u⟩
theorem Tch.belowR {w w1 w2 : World} {S : Nat → Prop} (h : Tch w w1 S) (hb : Below w1.heap.size w1 w2) : Tch w w2 S:=⟨hb.os.trans h.os,hb.tape.trans h.tape,hb.output.trans h.output,h.kept.below hb⟩
theorem Tch.of_below {w w1 : World} (S : Nat → Prop) (hb : Below w.heap.size w w1) : Tch w w1 S:=(Tch.refl w S).belowR hb
theorem Tch.grown {w w1 w2 : World} {S : Nat → Prop} {row : Option Nat} (h : Tch w w1 S) (hg : w1.grownBy w2 row) (hr : ∀ k,row = some k → S k ∨ w.heap.size ≤ k) : Tch w w2 S:=⟨hg.os.trans h.os,hg.tape.trans h.tape,hg.output.trans h.output,Kept.of_grown hg h.kept hr⟩
theorem Tch.below {w0 w w' : World} {S : Nat → Prop} {B : Nat} (h : Tch w w' S) (hb : Below B w0 w) (hB : B ≤ w.heap.size) (hs : ∀ k,S k → B ≤ k) : Below B w0 w' :=
 hb.trans ⟨h.os,h.tape,h.output,h.size,fun k hk => h.block (by omega) (fun e => by have:=hs k e;omega)⟩
theorem Tch.R {α : Type} {d : Kd α} {e : Nat} {w w' : World} {S : Nat → Prop} {base : Nat} {ok : Nat → Prop} {v : Value} {xs : List α} (h : Tch w w' S) (hr : d.R e w base ok v xs) (hne : ∀ k,ok k → ¬ S k) : d.R e w' base ok v xs:=Kd.R_kept hr h.kept hne
theorem Tch.one {w w1 : World} {p : Nat} (h : Tch w w1 (fun k => k = p)) (j : Nat) (u : Value) : Tch w (w1.setCell ⟨p,j,none⟩ u) (fun k => k = p):=Tch.setCell (p:=⟨p,j,none⟩) h (.inl rfl) u
theorem Tch.refl1 (w : World) (p : Nat) : Tch w w (fun k => k = p):=Tch.refl w _
end Go.Proofs.YtdoclpgciadjaaaDoor.P
