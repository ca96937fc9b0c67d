/- Texts of the proof of FnExactSpans, joined. -/
import Derived.Test.YtdoclpgciadjaaaSFnExactSpans25
import Derived.StillTailTactics
import Derived.Deep.QuietTactic
import Derived.Deep.RegionWith
import Derived.BigQuiet
import Derived.Test.YtdoclpgciadjaaaSFnExactSpans24
import Derived.Test.YtdoclpgciadjaaaSFnExactSpans21
import Derived.Test.YtdoclpgciadjaaaSFnExactSpans23
namespace Go.Proofs.Ytdoclpgciadjaaa.P
open Go Go.RowKit Go.Proofs.YtdoclpgciadjaaaW.PrintWords
set_option linter.unusedVariables false
structure WS where
 code : Int
 field : Int
 left : Int
 run : Int
 level : Int
 sum : Int
 got : Int
 ext : Bool
 id : Int
 rtr : Bool
 dlc : Int
 data : List Int
def cellsW (s : WS) (v : Value) : Array Value := #[.int .i64 s.code, .int .i64 s.field, .int .i64 s.left, .int .i64 s.run, .int .i32 s.level, .int .i64 s.sum, .int .i64 s.got, .bool s.ext, .int .u32 s.id, .bool s.rtr, .int .i64 s.dlc,v]
def objW (s : WS) (v : Value) : Obj := .cells (cellsW s v) 116 (0,0)
section
variable {w : World} {p : Nat} {s : WS} {v : Value} (h : w.heap[p]? = some (objW s v))
include h
theorem cW0 : w.cell? ⟨p,0,none⟩ = some (.int .i64 s.code):=blk_cell h 0
theorem cW1 : w.cell? ⟨p,1,none⟩ = some (.int .i64 s.field):=blk_cell h 1
theorem cW2 : w.cell? ⟨p,2,none⟩ = some (.int .i64 s.left):=blk_cell h 2
theorem cW3 : w.cell? ⟨p,3,none⟩ = some (.int .i64 s.run):=blk_cell h 3
theorem cW4 : w.cell? ⟨p,4,none⟩ = some (.int .i32 s.level):=blk_cell h 4
theorem cW5 : w.cell? ⟨p,5,none⟩ = some (.int .i64 s.sum):=blk_cell h 5
theorem cW6 : w.cell? ⟨p,6,none⟩ = some (.int .i64 s.got):=blk_cell h 6
theorem cW7 : w.cell? ⟨p,7,none⟩ = some (.bool s.ext):=blk_cell h 7
theorem cW8 : w.cell? ⟨p,8,none⟩ = some (.int .u32 s.id):=blk_cell h 8
theorem cW9 : w.cell? ⟨p,9,none⟩ = some (.bool s.rtr):=blk_cell h 9
theorem cW10 : w.cell? ⟨p,10,none⟩ = some (.int .i64 s.dlc):=blk_cell h 10
theorem cW11 : w.cell? ⟨p,11,none⟩ = some v:=blk_cell h 11
theorem fW (j : Nat) : w.frozen? ⟨p,j,none⟩ = false:=blk_frozen h j
theorem setW0 (x : Int) : (w.setCell ⟨p,0,none⟩ (.int .i64 x)).heap[p]? = some (objW { s with code:=x } v):=by simp only [World.setCell,Array.getElem?_modify,h];rfl
theorem setW1 (x : Int) : (w.setCell ⟨p,1,none⟩ (.int .i64 x)).heap[p]? = some (objW { s with field:=x } v):=by simp only [World.setCell,Array.getElem?_modify,h];rfl
theorem setW2 (x : Int) : (w.setCell ⟨p,2,none⟩ (.int .i64 x)).heap[p]? = some (objW { s with left:=x } v):=by simp only [World.setCell,Array.getElem?_modify,h];rfl
theorem setW3 (x : Int) : (w.setCell ⟨p,3,none⟩ (.int .i64 x)).heap[p]? = some (objW { s with run:=x } v):=by simp only [World.setCell,Array.getElem?_modify,h];rfl
theorem setW4 (x : Int) : (w.setCell ⟨p,4,none⟩ (.int .i32 x)).heap[p]? = some (objW { s with level:=x } v):=by simp only [World.setCell,Array.getElem?_modify,h];rfl
theorem setW5 (x : Int) : (w.setCell ⟨p,5,none⟩ (.int .i64 x)).heap[p]? = some (objW { s with sum:=x } v):=by simp only [World.setCell,Array.getElem?_modify,h];rfl
theorem setW6 (x : Int) : (w.setCell ⟨p,6,none⟩ (.int .i64 x)).heap[p]? = some (objW { s with got:=x } v):=by simp only [World.setCell,Array.getElem?_modify,h];rfl
theorem setW7 (x : Bool) : (w.setCell ⟨p,7,none⟩ (.bool x)).heap[p]? = some (objW { s with ext:=x } v):=by simp only [World.setCell,Array.getElem?_modify,h];rfl
theorem setW8 (x : Int) : (w.setCell ⟨p,8,none⟩ (.int .u32 x)).heap[p]? = some (objW { s with id:=x } v):=by simp only [World.setCell,Array.getElem?_modify,h];rfl
theorem setW9 (x : Bool) : (w.setCell ⟨p,9,none⟩ (.bool x)).heap[p]? = some (objW { s with rtr:=x } v):=by simp only [World.setCell,Array.getElem?_modify,h];rfl
theorem setW10 (x : Int) : (w.setCell ⟨p,10,none⟩ (.int .i64 x)).heap[p]? = some (objW { s with dlc:=x } v):=by simp only [World.setCell,Array.getElem?_modify,h];rfl
theorem setW11 (x : Value) : (w.setCell ⟨p,11,none⟩ x).heap[p]? = some (objW s x):=by simp only [World.setCell,Array.getElem?_modify,h];rfl
end
structure EndW (w : World) (p : Nat) (s : WS) (v : Value) (e : Ending) (w' : World) : Prop where
 ret : e = .returned (.tuple #[])
 obj : w'.heap[p]? = some (objW s v)
 tch : Tch w w' (fun k => k = p)
structure RetW (w : World) (p : Nat) (s : WS) (v : Value) (x : Value) (e : Ending) (w' : World) : Prop where
 ret : e = .returned x
 obj : w'.heap[p]? = some (objW s v)
 tch : Tch w w' (fun k => k = p)
def enterL (s : WS) (f : Int) : Int:=if f = 2 then 11 else if f = 5 then 18 else if f = 7 then (if s.ext = true then 2 else 1) else if f = 8 then 4 else if f = 9 then 8 * dataB s.rtr s.dlc else if f = 10 then 15 else if f = 14 then 7 else 1
def enterW (s : WS) (f : Int) : WS:=if f = 9 ∧ dataB s.rtr s.dlc = 0 then { s with field:=10,left:=15 } else { s with field:=f,left:=enterL s f }
def nextW (s : WS) : WS:=if s.left - 1 > 0 then { s with left:=s.left - 1 } else if s.field = 4 ∧ s.ext = false then enterW { s with left:=s.left - 1 } 7 else enterW { s with left:=s.left - 1 } (s.field + 1)
def dueW (s : WS) : Bool:=s.run == 5 && decide (s.field ≤ 11)
def crcOkW (s : WS) : Bool:=decide (10 < s.field) && s.sum == s.got
def endW (s : WS) (b : Int) : WS:=if 1 < s.left ∧ b = 0 then { s with code:=4 } else if s.left = 2 then { s with code:=1 } else if s.left = 1 ∧ b = 0 then { s with code:=6 } else if s.left = 1 then { s with code:=2 } else s
structure WOk (s : WS) : Prop where
 f0 : 1 ≤ s.field
 f1 : s.field ≤ 14
 l0 : 1 ≤ s.left
 l1 : s.left ≤ 64
 r0 : 0 ≤ s.run
 r1 : s.run ≤ 5
 d0 : 0 ≤ s.dlc
 d1 : s.dlc ≤ 15
 g0 : 0 ≤ s.got
 g1 : s.got < 32768
 i0 : 0 ≤ s.id
 i1 : s.id < 4294967296
 ne : s.field = 9 → s.left % 8 ≠ 0 → s.data ≠ []
 by_ : ∀ x ∈ s.data,0 ≤ x ∧ x < 256
 dl : s.data.length ≤ 100
def dataW (s : WS) (b : Int) : List Int:=let d:=if s.left % 8 = 0 then s.data ++ [0] else s.data;d.set (d.length - 1) ((2 * rd d ((d.length : Int) - 1) + b) % 256)
def takeW (s : WS) (b : Int) : WS :=
 if s.field = 1 then (if b = 1 then { s with code:=4 } else s)
 else if s.field = 2 ∨ s.field = 5 then { s with id:=(2 * s.id + b) % 4294967296 }
 else if s.field = 3 ∨ s.field = 6 then { s with rtr:=b == 1 }
 else if s.field = 4 then { s with ext:=b == 1 }
 else if s.field = 8 then { s with dlc:=2 * s.dlc + b }
 else if s.field = 9 then { s with data:=dataW s b }
 else if s.field = 10 then { s with got:=2 * s.got + b }
 else if s.field = 11 then (if b = 0 then { s with code:=4 } else s)
 else if s.field = 13 then (if b = 0 then { s with code:=4 } else if crcOkW s = true then s else { s with code:=5 })
 else if s.field = 14 then endW s b else s
def sumW (s : WS) (b : Int) : WS:=if s.field ≤ 9 then { s with sum:=crcI s.sum b } else s
def plainW (s : WS) (b : Int) : WS:=nextW (takeW (sumW s b) b)
def hearW (s0 : WS) (c : Int) : WS :=
 let s := { s0 with code:=0 }
 if dueW s = true then (if c = s.level then { s with code:=3,run:=1,level:=c } else { s with run:=1,level:=c })
 else if s.field ≤ 10 then (if 0 < s.run ∧ s.level = c then plainW { s with run:=s.run + 1 } (c - 48) else plainW { s with run:=1,level:=c } (c - 48))
 else plainW { s with run:=0 } (c - 48)
structure WAt (w0 w : World) (p : Nat) (S : Nat → Prop) (s : WS) (v : Value) : Prop where
 obj : w.heap[p]? = some (objW s v)
 row : Kd.R (Kd.int .u8) 5 w w0.heap.size S v s.data
theorem infoU8w : (Try.prog.info? 5).map (fun i => (i.zero,i.size,i.bytes)) = some (some (.int .u8 0),1,1):=by kernel_rfl
structure EndP (w0 w : World) (p : Nat) (S : Nat → Prop) (s : WS) (e : Ending) (w' : World) : Prop where
 ret : e = .returned (.tuple #[])
 at_ : ∃ v,WAt w0 w' p S s v
 tch : Tch w w' (fun k => k = p ∨ S k)
theorem EndW.toP {w0 w w' : World} {p : Nat} {S : Nat → Prop} {s : WS} {v : Value} {e : Ending} (h : EndW w p s v e w') (hr : Kd.R (Kd.int .u8) 5 w w0.heap.size S v s.data) (hS : ¬ S p) : EndP w0 w p S s e w' :=
 ⟨h.ret,⟨v,h.obj,h.tch.R hr (fun k hk e => hS (e ▸ hk))⟩,h.tch.mono fun k hk => .inl hk⟩
structure W9At (w0 w w1 : World) (p : Nat) (S : Nat → Prop) (s : WS) (d : List Int) (m g c1 : Nat) (v1 : Value) : Prop where
 obj : w1.heap[p]? = some (objW s v1)
 row : Kd.R (Kd.int .u8) 5 w1 w0.heap.size S (.slice (some ⟨g,0,none⟩) (m + 1) c1) d
 len : d.length = m + 1
 tch : Tch w w1 (fun k => k = p ∨ S k)
 own : S g
theorem W9At.facts {w0 w w1 : World} {p : Nat} {S : Nat → Prop} {s : WS} {d : List Int} {m g c1 : Nat} {v1 : Value} (h : W9At w0 w w1 p S s d m g c1 v1) (hS : ¬ S p) (hm : m < 1000) :
  g ≠ p ∧ p ≠ g ∧ ((0 ≤ (m : Int)) = True) ∧ (((m : Int) < ((m + 1 : Nat) : Int)) = True) ∧ w1.cell? ⟨g,m,none⟩ = some (.int .u8 (rd d (m : Int))) ∧ w1.frozen? ⟨g,m,none⟩ = false ∧ w1.cell? ⟨p,11,none⟩ = some v1 ∧ w1.frozen? ⟨p,11,none⟩ = false:=by
 have hgp : g ≠ p:=fun e => hS (e ▸ h.own)
 obtain ⟨hx,hf⟩:=Kd.R_celln 0 h.row (m : Int) (by omega) (by omega)
 rw [Int.toNat_natCast] at hx hf
 exact ⟨hgp,fun e => hgp e.symm,eq_true (by omega),eq_true (by omega),hx,hf,cW11 h.obj,fW h.obj 11⟩
theorem w9_append {w0 w w1 : World} {S : Nat → Prop} {p : Nat} {s : WS} {d : List Int} {v v1 : Value} (hp : w.heap[p]? = some (objW s v)) (hv : Kd.R (Kd.int .u8) 5 w w0.heap.size S v d) (hS : ¬ S p)
  (ho : Kd.R (Kd.int .u8) 5 w1 w0.heap.size S v1 (d ++ [0])) (hg : w.grownBy w1 v.ownBlock) : ∃ (g c1 : Nat),v1 = .slice (some ⟨g,0,none⟩) (d.length + 1) c1 ∧ W9At w0 w w1 p S s (d ++ [0]) d.length g c1 v:=by
 obtain ⟨g,c1,e1, -, -, -, -⟩:=Kd.R_form ho (by simp)
 subst e1
 have hl : (d ++ [0]).length = d.length + 1:=by simp
 rw [hl] at ho ⊢
 exact ⟨g,c1,rfl,blk_grown hp hg (fun e => hS (hv.1 p e.symm)),ho,hl,(Tch.refl _ _).grown hg (fun k hk => .inl (.inr (hv.1 k hk))),ho.1 g rfl⟩
theorem w9_same {w0 w : World} {S : Nat → Prop} {p : Nat} {s : WS} {d : List Int} {v : Value} (hp : w.heap[p]? = some (objW s v)) (hv : Kd.R (Kd.int .u8) 5 w w0.heap.size S v d) {m : Nat} (hm : d.length = m + 1) : ∃ (g c1 : Nat),v = .slice (some ⟨g,0,none⟩) (m + 1) c1 ∧ W9At w0 w w p S s d m g c1 v:=by
 obtain ⟨g,c1,e1, -, -, -, -⟩:=Kd.R_form hv (by omega)
 subst e1
 rw [hm] at hv ⊢
 exact ⟨g,c1,rfl,by rw [← hm];rw [hm] at hp ⊢;exact hp,hv,hm,Tch.refl _ _,hv.1 g rfl⟩
theorem w9_mid {w0 w w1 : World} {p : Nat} {S : Nat → Prop} {s : WS} {d : List Int} {m g c1 : Nat} {v1 V : Value} (h : W9At w0 w w1 p S s d m g c1 v1) (hS : ¬ S p) : W9At w0 w (w1.setCell ⟨p,11,none⟩ V) p S s d m g c1 V :=
 ⟨setW11 h.obj V,Kd.R_step h.row (fun k hk _ => Below.heap_setCell _ _ _ k (fun e => hS ((show k = p from e) ▸ hk))),h.len,h.tch.setCell (.inl (.inl rfl)) _,h.own⟩
theorem w9_draw {w0 w w1 : World} {p : Nat} {S : Nat → Prop} {s : WS} {d : List Int} {m g c1 : Nat} {v1 : Value} (h : W9At w0 w w1 p S s d m g c1 v1) (n : Nat) : W9At w0 w (w1.drewN n) p S s d m g c1 v1 :=
 ⟨h.obj,Kd.R_step h.row (fun _ _ _ => rfl),h.len,h.tch.drewN n,h.own⟩
theorem w9_put {w0 w w1 : World} {p : Nat} {S : Nat → Prop} {s : WS} {d : List Int} {m g c1 : Nat} (h : W9At w0 w w1 p S s d m g c1 (.slice (some ⟨g,0,none⟩) (m + 1) c1)) (hS : ¬ S p) (x : Int) : W9At w0 w (w1.setCell ⟨g,m,none⟩ (.int .u8 x)) p S s (d.set m x) m g c1 (.slice (some ⟨g,0,none⟩) (m + 1) c1):=by
 obtain ⟨h1,h2⟩:=Kd.R_putg h.row (m : Int) x
 rw [Int.toNat_natCast] at h1 h2
 exact ⟨blk_grown h.obj h2 (fun e => hS (by injection e with e;exact e ▸ h.own)),h1,by rw [List.length_set];exact h.len,h.tch.setCell (.inl (.inr h.own)) _,h.own⟩
def enterP (s : WS) (f : Int) : Int × Int:=if f = 9 ∧ dataB s.rtr s.dlc = 0 then (10,15) else (f,enterL s f)
def nextP (s : WS) : Int × Int:=if s.left - 1 > 0 then (s.field,s.left - 1) else if s.field = 4 ∧ s.ext = false then enterP s 7 else enterP s (s.field + 1)
theorem enterW_eq (s : WS) (f : Int) : enterW s f = { s with field:=(enterP s f).1,left:=(enterP s f).2 }:=by
 unfold enterW enterP
 by_cases c : f = 9 ∧ dataB s.rtr s.dlc = 0
 ·rw [if_pos c,if_pos c]
 ·rw [if_neg c,if_neg c]
theorem nextW_eq (s : WS) : nextW s = { s with field:=(nextP s).1,left:=(nextP s).2 }:=by
 unfold nextW nextP
 by_cases c : s.left - 1 > 0
 ·rw [if_pos c,if_pos c]
 ·rw [if_neg c,if_neg c]
  by_cases c2 : s.field = 4 ∧ s.ext = false
  ·rw [if_pos c2,if_pos c2,enterW_eq];rfl
  ·rw [if_neg c2,if_neg c2,enterW_eq];rfl
def withData (s : WS) (d : List Int) : WS := { s with data:=d }
theorem nextW_data (s : WS) (d : List Int) : nextW (withData s d) = withData (nextW s) d:=by
 rw [nextW_eq,nextW_eq];rfl
structure WIn (w0 w : World) (p : Nat) (S : Nat → Prop) (s : WS) (v : Value) : Prop where
 obj : w.heap[p]? = some (objW s v)
 row : Kd.R (Kd.int .u8) 5 w w0.heap.size S v s.data
 below : Below w0.heap.size w0 w
 fresh : ∀ k,w.heap.size ≤ k → S k
theorem WIn.put {w0 w : World} {p : Nat} {S : Nat → Prop} {s : WS} {v : Value} (h : WIn w0 w p S s v) (hS : ¬ S p) (hpl : w0.heap.size ≤ p) {j : Nat} {u : Value} {s' : WS} (ho : (w.setCell ⟨p,j,none⟩ u).heap[p]? = some (objW s' v)) (hd : s'.data = s.data) : WIn w0 (w.setCell ⟨p,j,none⟩ u) p S s' v :=
 ⟨ho,by rw [hd];exact Kd.R_step h.row (fun k hk _ => Below.heap_setCell _ _ _ k (fun e => hS ((show k = p from e) ▸ hk))),h.below.setCell hpl _,fun k hk => h.fresh k (by simpa [World.setCell] using hk)⟩
theorem plainW_data (s : WS) (b : Int) (h : s.field ≠ 9) : (plainW s b).data = s.data:=by
 have e1 : (sumW s b).data = s.data ∧ (sumW s b).field = s.field:=by unfold sumW;split <;> exact ⟨rfl,rfl⟩
 have e2 : (takeW (sumW s b) b).data = (sumW s b).data:=by
  generalize sumW s b = t at e1 ⊢
  have hne : ¬ t.field = 9:=by rw [e1.2];exact h
  have e3 : (endW t b).data = t.data:=by unfold endW;(repeat' split) <;> rfl
  unfold takeW
  rw [if_neg hne]
  (repeat' split) <;> first | rfl | exact e3
 unfold plainW
 rw [nextW_eq]
 exact e2.trans e1.1
theorem run_le4 {s : WS} (hd : dueW s = false) (hf : s.field ≤ 10) (r1 : s.run ≤ 5) : s.run ≤ 4:=by
 by_cases h5 : s.run = 5
 ·unfold dueW at hd
  rw [h5,decide_eq_true (show s.field ≤ 11 by omega)] at hd
  exact absurd hd (by decide)
 ·omega
theorem nat_or_bit (m b : Nat) (hb : b ≤ 1) : (m * 2) ||| b = 2 * m + b:=by
 have:=Nat.two_pow_add_eq_or_of_lt (i:=1) (b:=b) (by omega) m
 rw [Nat.pow_one] at this
 rw [Nat.mul_comm m 2, ← this]
theorem or_i64 (x b : Int) (h0 : 0 ≤ x) (h1 : x < 1000000000) (hb : b = 0 ∨ b = 1) : Go.bits .or .i64 (wrap64 (x * 2)) b = 2 * x + b:=by
 obtain ⟨n,rfl⟩ : ∃ n : Nat,x = (n : Int):=⟨x.toNat,by omega⟩
 obtain ⟨m,rfl,hm⟩ : ∃ m : Nat,b = (m : Int) ∧ m ≤ 1:=⟨b.toNat,by omega,by omega⟩
 have e : wrap64 ((n : Int) * 2) = ((n * 2 : Nat) : Int):=by unfold wrap64;omega
 have hp : (2 : Nat) ^ 62 ≤ 2 ^ IntKind.i64.bits:=Nat.pow_le_pow_right (by decide) (by decide)
 have ha' : (n * 2) % 2 ^ IntKind.i64.bits = n * 2:=Nat.mod_eq_of_lt (Nat.lt_of_lt_of_le (by omega) hp)
 have hb' : m % 2 ^ IntKind.i64.bits = m:=Nat.mod_eq_of_lt (Nat.lt_of_lt_of_le (by omega) hp)
 rw [e]
 simp only [Go.bits,BitVec.ofInt_natCast,BitVec.toNat_or,BitVec.toNat_ofNat,ha',hb']
 rw [nat_or_bit n m hm,IntKind.wrap_i64]
 omega
theorem or_u32 (x b : Int) (h0 : 0 ≤ x) (hb : b = 0 ∨ b = 1) : Go.bits .or .u32 ((x * 2) % 4294967296) b = (2 * x + b) % 4294967296:=by
 obtain ⟨n,rfl⟩ : ∃ n : Nat,x = (n : Int):=⟨x.toNat,by omega⟩
 obtain ⟨m,rfl,hm⟩ : ∃ m : Nat,b = (m : Int) ∧ m ≤ 1:=⟨b.toNat,by omega,by omega⟩
 have e : ((n : Int) * 2) % 4294967296 = (((n % 2147483648) * 2 : Nat) : Int):=by omega
 have ha' : ((n % 2147483648) * 2) % 2 ^ IntKind.u32.bits = (n % 2147483648) * 2:=Nat.mod_eq_of_lt (show (n % 2147483648) * 2 < 4294967296 by omega)
 have hb' : m % 2 ^ IntKind.u32.bits = m:=Nat.mod_eq_of_lt (show m < 4294967296 by omega)
 rw [e]
 simp only [Go.bits,BitVec.ofInt_natCast,BitVec.toNat_or,BitVec.toNat_ofNat,ha',hb']
 rw [nat_or_bit _ m hm,IntKind.wrap_u32]
 omega
theorem or_u8 (x b : Int) (h0 : 0 ≤ x) (hb : b = 0 ∨ b = 1) : Go.bits .or .u8 ((x * 2) % 256) b = (2 * x + b) % 256:=by
 obtain ⟨n,rfl⟩ : ∃ n : Nat,x = (n : Int):=⟨x.toNat,by omega⟩
 obtain ⟨m,rfl,hm⟩ : ∃ m : Nat,b = (m : Int) ∧ m ≤ 1:=⟨b.toNat,by omega,by omega⟩
 have e : ((n : Int) * 2) % 256 = (((n % 128) * 2 : Nat) : Int):=by omega
 have ha' : ((n % 128) * 2) % 2 ^ IntKind.u8.bits = (n % 128) * 2:=Nat.mod_eq_of_lt (show (n % 128) * 2 < 256 by omega)
 have hb' : m % 2 ^ IntKind.u8.bits = m:=Nat.mod_eq_of_lt (show m < 256 by omega)
 rw [e]
 simp only [Go.bits,BitVec.ofInt_natCast,BitVec.toNat_or,BitVec.toNat_ofNat,ha',hb']
 rw [nat_or_bit _ m hm,IntKind.wrap_u8]
 omega
theorem rd_range {l : List Int} (h : ∀ x ∈ l,0 ≤ x ∧ x < 256) (i : Int) : 0 ≤ rd l i:=by
 unfold rd
 rw [List.getD_eq_getElem?_getD]
 cases e : l[i.toNat]? with
 | none => exact Int.le_refl 0
 | some y => exact (h y (List.mem_of_getElem? e)).1
theorem takeW9 (t : WS) (b : Int) (h : t.field = 9) : takeW t b = withData t (dataW t b):=by
 unfold takeW
 rw [if_neg (by omega),if_neg (by omega),if_neg (by omega),if_neg (by omega),if_neg (by omega),if_pos h]
 rfl
theorem plain9_eq (s : WS) (b : Int) (hb : b = 0 ∨ b = 1) (hf : s.field = 9) (d : List Int) (m : Nat) (hd : d = if s.left % 8 = 0 then s.data ++ [0] else s.data) (hl : d.length = m + 1) (hr : 0 ≤ rd d (m : Int)) :
  plainW s b = withData (nextW { s with sum:=crcI s.sum b }) (d.set m (Go.bits .or .u8 (rd d (m : Int) * 2 % 256) b)):=by
 have e0 : sumW s b = { s with sum:=crcI s.sum b }:=by unfold sumW;rw [if_pos (by omega)]
 have : dataW { s with sum:=crcI s.sum b } b = d.set m ((2 * rd d (m : Int) + b) % 256):=by
  unfold dataW
  simp only []
  rw [← hd,hl,show ((m + 1 : Nat) : Int) - 1 = (m : Int) by omega,show m + 1 - 1 = m by omega]
 unfold plainW
 rw [e0,takeW9 ({ s with sum:=crcI s.sum b }) b hf,or_u8 _ b hr hb,this,nextW_data]
end Go.Proofs.Ytdoclpgciadjaaa.P

namespace Go.Proofs.Ytdoclpgciadjaaa.P
open Go.RowKit Go.Proofs.YtdoclpgciadjaaaW.PrintWords Go.Proofs.YtdoclpgciadjaaaW.PrintLast Go.Proofs.YtdoclpgciadjaaaW.PrintMore
set_option linter.unusedVariables false
set_option linter.unusedSimpArgs false
theorem enter10 (p : Nat) (v : Value) (s : WS) (w : World) (hp : w.heap[p]? = some (objW s v)) :
  Calls Try.prog 133 #[.pointer (some ⟨p,0,none⟩), .int .i64 10] w (EndW w p { s with field:=10,left:=15 } v):=by
 have HP:=Lib.hid hp
 have hc1:=cW1 hp
 have hc2:=cW2 hp
 have hf:=fW hp
 have hf1:=hf 1
 have hf2:=hf 2
 clear hp hf
 go_enter Try.func133,Try.ntmps133
 go_wp2_with (fail)
 go_end0
 exact ⟨rfl,setW2 (setW1 HP.out 10) 15,((Tch.refl1 _ _).one _ _).one _ _⟩
theorem enter_lit (p : Nat) (v : Value) (s : WS) (w : World) (hp : w.heap[p]? = some (objW s v)) (f : Int) (hf : f ≠ 7) (hf9 : f ≠ 9) :
  Calls Try.prog 133 #[.pointer (some ⟨p,0,none⟩), .int .i64 f] w (EndW w p { s with field:=f,left:=enterL s f } v):=by
 have HP:=Lib.hid hp
 have hc1:=cW1 hp
 have hc2:=cW2 hp
 have hf:=fW hp
 have hf1:=hf 1
 have hf2:=hf 2
 clear hp hf
 have b7 : (f == 7) = false:=by simp;omega
 have b9 : (f == 9) = false:=by simp;omega
 by_cases c2 : f = 2
 ·subst c2
  go_enter Try.func133,Try.ntmps133
  go_wp2_with (fail)
  go_end0
  exact ⟨rfl,setW2 (setW1 HP.out 2) 11,((Tch.refl1 _ _).one _ _).one _ _⟩
 by_cases c5 : f = 5
 ·subst c5
  go_enter Try.func133,Try.ntmps133
  go_wp2_with (fail)
  go_end0
  exact ⟨rfl,setW2 (setW1 HP.out 5) 18,((Tch.refl1 _ _).one _ _).one _ _⟩
 by_cases c8 : f = 8
 ·subst c8
  go_enter Try.func133,Try.ntmps133
  go_wp2_with (fail)
  go_end0
  exact ⟨rfl,setW2 (setW1 HP.out 8) 4,((Tch.refl1 _ _).one _ _).one _ _⟩
 by_cases c10 : f = 10
 ·subst c10
  exact enter10 p v s w HP.out
 by_cases c14 : f = 14
 ·subst c14
  go_enter Try.func133,Try.ntmps133
  go_wp2_with (fail)
  go_end0
  exact ⟨rfl,setW2 (setW1 HP.out 14) 7,((Tch.refl1 _ _).one _ _).one _ _⟩
 have hL : Hid (enterL s f = 1):=Lib.hid (by unfold enterL;rw [if_neg c2,if_neg c5,if_neg (by omega),if_neg c8,if_neg (by omega),if_neg c10,if_neg c14])
 have b2 : (f == 2) = false:=by simp;omega
 have b5 : (f == 5) = false:=by simp;omega
 have b8 : (f == 8) = false:=by simp;omega
 have b10 : (f == 10) = false:=by simp;omega
 have b14 : (f == 14) = false:=by simp;omega
 clear c2 c5 c8 c10 c14 hf hf9
 go_enter Try.func133,Try.ntmps133
 go_wp2_with (fail)
 go_end0
 rw [hL.out]
 exact ⟨rfl,setW2 (setW1 HP.out f) 1,((Tch.refl1 _ _).one _ _).one _ _⟩
theorem enter7 (p : Nat) (v : Value) (s : WS) (w : World) (hp : w.heap[p]? = some (objW s v)) :
  Calls Try.prog 133 #[.pointer (some ⟨p,0,none⟩), .int .i64 7] w (EndW w p { s with field:=7,left:=enterL s 7 } v):=by
 have HP:=Lib.hid hp
 have hc1:=cW1 hp
 have hc2:=cW2 hp
 have hc7:=cW7 hp
 have hf:=fW hp
 have hf1:=hf 1
 have hf2:=hf 2
 clear hp hf
 obtain ⟨b,hb⟩ : ∃ b,s.ext = b:=⟨_,rfl⟩
 rw [hb] at hc7
 have hL : Hid (enterL s 7 = if b = true then 2 else 1):=Lib.hid (by rw [← hb];rfl)
 clear hb
 rw [hL.out]
 cases b with
 | true =>
  go_enter Try.func133,Try.ntmps133
  go_wp2_with (fail)
  go_end0
  exact ⟨rfl,setW2 (setW2 (setW1 HP.out 7) 1) 2,(((Tch.refl1 _ _).one _ _).one _ _).one _ _⟩
 | false =>
  go_enter Try.func133,Try.ntmps133
  go_wp2_with (fail)
  go_end0
  exact ⟨rfl,setW2 (setW1 HP.out 7) 1,((Tch.refl1 _ _).one _ _).one _ _⟩
theorem enter9 (p : Nat) (v : Value) (s : WS) (w : World) (hp : w.heap[p]? = some (objW s v)) (h0 : 0 ≤ s.dlc) :
  Calls Try.prog 133 #[.pointer (some ⟨p,0,none⟩), .int .i64 9] w (EndW w p (enterW s 9) v):=by
 have HP:=Lib.hid hp
 have hc1:=cW1 hp
 have hc2:=cW2 hp
 have hc9:=cW9 hp
 have hc10:=cW10 hp
 have hf:=fW hp
 have hf1:=hf 1
 have hf2:=hf 2
 clear hp hf
 have hd0 : 0 ≤ dataB s.rtr s.dlc:=by unfold dataB;split <;> (try split) <;> omega
 have hd8 : dataB s.rtr s.dlc ≤ 8:=by unfold dataB;split <;> (try split) <;> omega
 go_enter Try.func133,Try.ntmps133
 go_upto_region 14 with (fail)
 go_cut [] (fun wc => Aside0 (wc.heap[p]? = some (objW { s with field:=9,left:=8 * dataB s.rtr s.dlc } v)) ∧ Aside0 (Tch w wc (fun k => k = p)))
 case first =>
  have hw : IntKind.i64.wrap (8 * dataB s.rtr s.dlc) = 8 * dataB s.rtr s.dlc:=by rw [IntKind.wrap_i64];omega
  go_region_with (go_at_call 105;refine (impl_dataBytes.same _ _ _).mono ?_;rintro e w' ⟨rfl,rfl⟩)
  all_goals
   go_wp2_with (fail)
   go_meet
   case rel => exact ⟨⟨blk_drew (setW2 (setW1 HP.out 9) (8 * dataB s.rtr s.dlc))⟩,⟨Tch.drew (((Tch.refl1 _ _).one _ _).one _ _)⟩⟩
 case rest =>
  obtain ⟨HO,HT⟩:=hcut
  clear hc1 hc2 hc9 hc10 hf1 hf2
  have hc2:=cW2 HO.out
  have hf2:=fW HO.out 2
  by_cases c : dataB s.rtr s.dlc = 0
  ·have hL : Hid (enterW s 9 = { s with field:=10,left:=15 }):=Lib.hid (by unfold enterW;rw [if_pos ⟨rfl,c⟩])
   have hb : (8 * dataB s.rtr s.dlc == 0) = true:=by simp;omega
   clear c
   go_wp2_with (go_at_call 133;refine (enter10 p v _ _ HO.out).mono ?_;intro e w' hE;have HE:=Lib.hid hE;obtain rfl:=hE.ret;clear hE)
   go_end0
   rw [hL.out]
   exact ⟨rfl,HE.out.obj,HT.out.trans HE.out.tch⟩
  ·have hL : Hid (enterW s 9 = { s with field:=9,left:=8 * dataB s.rtr s.dlc }):=Lib.hid (by unfold enterW;rw [if_neg (fun h => c h.2)];rfl)
   have hb : (8 * dataB s.rtr s.dlc == 0) = false:=by simp;omega
   clear c
   go_wp2_with (fail)
   go_end0
   rw [hL.out]
   exact ⟨rfl,HO.out,HT.out⟩
theorem impl_walk_enter.calls (p : Nat) (v : Value) (s : WS) (f : Int) (w : World) (hp : w.heap[p]? = some (objW s v)) (h0 : 0 ≤ s.dlc) :
  Calls Try.prog 133 #[.pointer (some ⟨p,0,none⟩), .int .i64 f] w (EndW w p (enterW s f) v):=by
 by_cases c9 : f = 9
 ·subst c9;exact enter9 p v s w hp h0
 have e : enterW s f = { s with field:=f,left:=enterL s f }:=by unfold enterW;rw [if_neg (fun h => c9 h.1)]
 rw [e]
 by_cases c7 : f = 7
 ·subst c7;exact enter7 p v s w hp
 ·exact enter_lit p v s w hp f c7 c9
end Go.Proofs.Ytdoclpgciadjaaa.P

namespace Go.Proofs.Ytdoclpgciadjaaa.P
open Go.RowKit Go.Proofs.YtdoclpgciadjaaaW.PrintWords Go.Proofs.YtdoclpgciadjaaaW.PrintLast Go.Proofs.YtdoclpgciadjaaaW.PrintMore
set_option linter.unusedVariables false
set_option linter.unusedSimpArgs false
theorem impl_walk_due.calls (p : Nat) (v : Value) (s : WS) (w : World) (hp : w.heap[p]? = some (objW s v)) :
  Calls Try.prog 82 #[.pointer (some ⟨p,0,none⟩)] w fun e w' => e = .returned (.bool (dueW s)) ∧ w = w':=by
 have hc1:=cW1 hp
 have hc3:=cW3 hp
 clear hp
 unfold dueW
 by_cases c : s.run = 5
 ·have b5 : (s.run == 5) = true:=by simp [c]
  rw [b5]
  go_enter Try.func82,Try.ntmps82
  go_wp2_with (fail)
  go_ret
  exact ⟨rfl,rfl⟩
 ·have b5 : (s.run == 5) = false:=by simp [c]
  rw [b5]
  go_enter Try.func82,Try.ntmps82
  go_wp2_with (fail)
  go_ret
  exact ⟨rfl,rfl⟩
end Go.Proofs.Ytdoclpgciadjaaa.P

namespace Go.Proofs.Ytdoclpgciadjaaa.P
open Go.RowKit Go.Proofs.YtdoclpgciadjaaaW.PrintWords Go.Proofs.YtdoclpgciadjaaaW.PrintLast Go.Proofs.YtdoclpgciadjaaaW.PrintMore
set_option linter.unusedVariables false
set_option linter.unusedSimpArgs false
theorem impl_walk_crcOk.calls (p : Nat) (v : Value) (s : WS) (w : World) (hp : w.heap[p]? = some (objW s v)) :
  Calls Try.prog 83 #[.pointer (some ⟨p,0,none⟩)] w fun e w' => e = .returned (.bool (crcOkW s)) ∧ ∃ n,w' = w.drewN n:=by
 have hc1:=cW1 hp
 have hc5:=cW5 hp
 have hc6:=cW6 hp
 clear hp
 unfold crcOkW
 by_cases c : 10 < s.field
 ·have b5 : decide (10 < s.field) = true:=decide_eq_true c
  rw [b5]
  go_enter Try.func83,Try.ntmps83
  go_wp2_with (fail)
  go_quiet (fail)
  go_wp2_with (fail)
  go_ret
  exact ⟨rfl,_,rfl⟩
 ·have b5 : decide (10 < s.field) = false:=decide_eq_false c
  rw [b5]
  go_enter Try.func83,Try.ntmps83
  go_wp2_with (fail)
  go_quiet (fail)
  go_wp2_with (fail)
  go_ret
  exact ⟨rfl,_,rfl⟩
theorem crcOk_is (p : Nat) (v : Value) (s : WS) (w : World) (hp : w.heap[p]? = some (objW s v)) (k : Bool) (hk : crcOkW s = k) :
  Calls Try.prog 83 #[.pointer (some ⟨p,0,none⟩)] w (RetW w p s v (.bool k)):=by
 subst hk
 refine (impl_walk_crcOk.calls p v s w hp).mono ?_
 rintro e w' ⟨rfl,n,rfl⟩
 exact ⟨rfl,blk_drewN hp n,(Tch.refl _ _).drewN n⟩
end Go.Proofs.Ytdoclpgciadjaaa.P

namespace Go.Proofs.Ytdoclpgciadjaaa.P
open Go.RowKit Go.Proofs.YtdoclpgciadjaaaW.PrintWords Go.Proofs.YtdoclpgciadjaaaW.PrintLast Go.Proofs.YtdoclpgciadjaaaW.PrintMore
set_option linter.unusedVariables false
set_option linter.unusedSimpArgs false
theorem impl_walk_end.calls (p : Nat) (v : Value) (s : WS) (b : Int) (hb : b = 0 ∨ b = 1) (w : World) (hp : w.heap[p]? = some (objW s v)) :
  Calls Try.prog 165 #[.pointer (some ⟨p,0,none⟩), .int .i64 b] w (EndW w p (endW s b) v):=by
 have HP:=Lib.hid hp
 have hc0:=cW0 hp
 have hc2:=cW2 hp
 have hf0:=fW hp 0
 clear hp
 have yes : ∀ x : Int,EndW w p { s with code:=x } v (.returned (.tuple #[])) (w.setCell ⟨p,0,none⟩ (.int .i64 x)):=fun x => ⟨rfl,setW0 HP.out x,(Tch.refl1 _ _).one _ _⟩
 have no : EndW w p s v (.returned (.tuple #[])) w:=⟨rfl,HP.out,Tch.refl1 _ _⟩
 have YES:=Lib.hid yes
 have NO:=Lib.hid no
 clear yes no
 rcases hb with rfl | rfl
 ·by_cases c1 : 1 < s.left
  ·have b1 : decide (1 < s.left) = true:=decide_eq_true c1
   have hL : Hid (endW s 0 = { s with code:=4 }):=Lib.hid (by unfold endW;rw [if_pos ⟨c1,rfl⟩])
   clear c1
   go_enter Try.func165,Try.ntmps165
   go_wp2_with (fail)
   go_end0
   rw [hL.out]
   exact YES.out 4
  ·have b1 : decide (1 < s.left) = false:=decide_eq_false c1
   have b2 : (s.left == 2) = false:=by simp;omega
   by_cases c3 : s.left = 1
   ·have b3 : (s.left == 1) = true:=by simp [c3]
    have hL : Hid (endW s 0 = { s with code:=6 }):=Lib.hid (by unfold endW;rw [if_neg (by omega),if_neg (by omega),if_pos ⟨c3,rfl⟩])
    clear c1 c3
    go_enter Try.func165,Try.ntmps165
    go_wp2_with (fail)
    go_end0
    rw [hL.out]
    exact YES.out 6
   ·have b3 : (s.left == 1) = false:=by simp [c3]
    have hL : Hid (endW s 0 = s):=Lib.hid (by unfold endW;rw [if_neg (by omega),if_neg (by omega),if_neg (by omega),if_neg c3])
    clear c1 c3
    go_enter Try.func165,Try.ntmps165
    go_wp2_with (fail)
    go_end0
    rw [hL.out]
    exact NO.out
 ·by_cases c2 : s.left = 2
  ·have b2 : (s.left == 2) = true:=by simp [c2]
   have b1 : decide (1 < s.left) = true:=decide_eq_true (by omega)
   have hL : Hid (endW s 1 = { s with code:=1 }):=Lib.hid (by unfold endW;rw [if_neg (by omega),if_pos c2])
   clear c2
   go_enter Try.func165,Try.ntmps165
   go_wp2_with (fail)
   go_end0
   rw [hL.out]
   exact YES.out 1
  ·have b2 : (s.left == 2) = false:=by simp [c2]
   by_cases c3 : s.left = 1
   ·have b3 : (s.left == 1) = true:=by simp [c3]
    have b1 : decide (1 < s.left) = false:=decide_eq_false (by omega)
    have hL : Hid (endW s 1 = { s with code:=2 }):=Lib.hid (by unfold endW;rw [if_neg (by omega),if_neg c2,if_neg (by omega),if_pos c3])
    clear c2 c3
    go_enter Try.func165,Try.ntmps165
    go_wp2_with (fail)
    go_end0
    rw [hL.out]
    exact YES.out 2
   ·have b3 : (s.left == 1) = false:=by simp [c3]
    have hL : Hid (endW s 1 = s):=Lib.hid (by unfold endW;rw [if_neg (by omega),if_neg c2,if_neg (by omega),if_neg c3])
    by_cases c1 : 1 < s.left
    ·have b1 : decide (1 < s.left) = true:=decide_eq_true c1
     clear c1 c2 c3
     go_enter Try.func165,Try.ntmps165
     go_wp2_with (fail)
     go_end0
     rw [hL.out]
     exact NO.out
    ·have b1 : decide (1 < s.left) = false:=decide_eq_false c1
     clear c1 c2 c3
     go_enter Try.func165,Try.ntmps165
     go_wp2_with (fail)
     go_end0
     rw [hL.out]
     exact NO.out
end Go.Proofs.Ytdoclpgciadjaaa.P

namespace Go.Proofs.Ytdoclpgciadjaaa.P
open Go.RowKit Go.Proofs.YtdoclpgciadjaaaW.PrintWords Go.Proofs.YtdoclpgciadjaaaW.PrintLast Go.Proofs.YtdoclpgciadjaaaW.PrintMore
set_option linter.unusedVariables false
set_option linter.unusedSimpArgs false
theorem impl_walk_next.calls (p : Nat) (v : Value) (s : WS) (w : World) (hp : w.heap[p]? = some (objW s v)) (h0 : 0 ≤ s.dlc) (l0 : 1 ≤ s.left) (l1 : s.left ≤ 64) (f0 : 1 ≤ s.field) (f1 : s.field ≤ 14) :
  Calls Try.prog 166 #[.pointer (some ⟨p,0,none⟩)] w (EndW w p (nextW s) v):=by
 have HP:=Lib.hid hp
 have hc1:=cW1 hp
 have hc2:=cW2 hp
 have hc7:=cW7 hp
 have hf:=fW hp
 have hf2:=hf 2
 clear hp hf
 by_cases c : s.left - 1 > 0
 ·have hL : Hid (nextW s = { s with left:=s.left - 1 }):=Lib.hid (by unfold nextW;rw [if_pos c])
  have cb : decide (0 < s.left - 1) = true:=decide_eq_true (by omega)
  have cb1 : decide (1 < s.left) = true:=decide_eq_true (by omega)
  go_enter Try.func166,Try.ntmps166
  go_wp2_with (fail)
  go_end0
  rw [hL.out]
  exact ⟨rfl,setW2 HP.out _,(Tch.refl1 _ _).one _ _⟩
 ·have cb : decide (0 < s.left - 1) = false:=decide_eq_false (by omega)
  have cb1 : decide (1 < s.left) = false:=decide_eq_false (by omega)
  have HS:=Lib.hid (setW2 HP.out (s.left - 1))
  have HT:=Lib.hid ((Tch.refl1 w p).one 2 (.int .i64 (s.left - 1)))
  by_cases c4 : s.field = 4
  ·have b4 : (s.field == 4) = true:=by simp [c4]
   obtain ⟨b,hb⟩ : ∃ b,s.ext = b:=⟨_,rfl⟩
   rw [hb] at hc7
   have hL : Hid (nextW s = if b = false then enterW { s with left:=s.left - 1 } 7 else enterW { s with left:=s.left - 1 } 5):=Lib.hid (by unfold nextW;rw [if_neg c, ← hb];simp [c4])
   clear hb
   cases b with
   | true =>
    go_enter Try.func166,Try.ntmps166
    go_wp2_with (fail)
    (refine (impl_walk_enter.calls p v _ _ _ HS.out h0).mono ?_;intro e w' hE;have HE:=Lib.hid hE;obtain rfl:=hE.ret;clear hE)
    go_wp2_with (fail)
    go_end0
    rw [hL.out]
    exact ⟨rfl,HE.out.obj,HT.out.trans HE.out.tch⟩
   | false =>
    go_enter Try.func166,Try.ntmps166
    go_wp2_with (fail)
    (refine (impl_walk_enter.calls p v _ _ _ HS.out h0).mono ?_;intro e w' hE;have HE:=Lib.hid hE;obtain rfl:=hE.ret;clear hE)
    go_wp2_with (fail)
    go_end0
    rw [hL.out]
    exact ⟨rfl,HE.out.obj,HT.out.trans HE.out.tch⟩
  ·have b4 : (s.field == 4) = false:=by simp [c4]
   have hL : Hid (nextW s = enterW { s with left:=s.left - 1 } (s.field + 1)):=Lib.hid (by unfold nextW;rw [if_neg c,if_neg (fun h => c4 h.1)])
   go_enter Try.func166,Try.ntmps166
   go_wp2_with (fail)
   (refine (impl_walk_enter.calls p v _ _ _ HS.out h0).mono ?_;intro e w' hE;have HE:=Lib.hid hE;obtain rfl:=hE.ret;clear hE)
   go_wp2_with (fail)
   go_end0
   rw [hL.out]
   exact ⟨rfl,HE.out.obj,HT.out.trans HE.out.tch⟩
end Go.Proofs.Ytdoclpgciadjaaa.P

namespace Go.Proofs.Ytdoclpgciadjaaa.P
open Go.RowKit Go.Proofs.YtdoclpgciadjaaaW.PrintWords Go.Proofs.YtdoclpgciadjaaaW.PrintLast Go.Proofs.YtdoclpgciadjaaaW.PrintMore
set_option linter.unusedVariables false
set_option linter.unusedSimpArgs false
theorem slice_sz (w : World) (p : Addr) (u : Value) : Value.slice (some ⟨w.heap.size,0,none⟩) 1 1 = Value.slice (some ⟨(w.setCell p u).heap.size,0,none⟩) 1 1:=by simp [World.setCell]
set_option maxHeartbeats 1000000 in
set_option maxRecDepth 100000 in
theorem plain_9_0_app (p : Nat) (v : Value) (s : WS) (S : Nat → Prop) (w0 w : World) (hp : w.heap[p]? = some (objW s v)) (hv : Kd.R (Kd.int .u8) 5 w w0.heap.size S v s.data) (hB : Below w0.heap.size w0 w) (hpl : w0.heap.size ≤ p) (hS : ¬ S p) (hF : ∀ k,w.heap.size ≤ k → S k) (ok : WOk s) (hfld : s.field = 9) (hm8 : s.left % 8 = 0) :
  Calls Try.prog 156 #[.pointer (some ⟨p,0,none⟩), .int .i64 0] w (EndP w0 w p S (plainW s 0)):=by
 have HP:=Lib.hid hp
 have HV:=Lib.hid hv
 have HB:=Lib.hid hB
 have OK:=Lib.hid ok
 have HF:=Lib.hid hfld
 have hc1:=cW1 hp
 have hc2:=cW2 hp
 have hc5:=cW5 hp
 have hc11:=cW11 hp
 have hf5:=fW hp 5
 have hf11:=fW hp 11
 have l0:=ok.l0
 have l1:=ok.l1
 have hdl:=ok.dl
 have hm : (Int.tmod s.left 8 == 0) = true:=by rw [Int.tmod_eq_emod_of_nonneg (by omega)];simp;omega
 have hm2 : (s.left % 8 == 0) = true:=by simp;omega
 rw [hfld] at hc1
 have HP1:=Lib.hid (setW5 HP.out (crcI s.sum 0))
 have HV1 : Hid (Kd.R (Kd.int .u8) 5 (w.setCell ⟨p,5,none⟩ (.int .i64 (crcI s.sum 0))) w0.heap.size S v s.data):=Lib.hid (Kd.R_step HV.out (fun k hk _ => Below.heap_setCell _ _ _ k (fun e => hS ((show k = p from e) ▸ hk))))
 have HB1 : Hid (Below w0.heap.size w0 (w.setCell ⟨p,5,none⟩ (.int .i64 (crcI s.sum 0)))):=Lib.hid (HB.out.setCell hpl _)
 have HT1 : Hid (Tch w (w.setCell ⟨p,5,none⟩ (.int .i64 (crcI s.sum 0))) (fun k => k = p ∨ S k)):=Lib.hid ((Tch.refl _ _).setCell (.inl (.inl rfl)) _)
 have HF1 : Hid (∀ k,(w.setCell ⟨p,5,none⟩ (.int .i64 (crcI s.sum 0))).heap.size ≤ k → S k):=Lib.hid fun k hk => hF k (by simpa [World.setCell] using hk)
 have HHM:=Lib.hid hm8
 clear hp hv hB ok hfld hm8 hF
 go_enter Try.func156,Try.ntmps156
 go_wp2_with (first | (go_at_call 78;refine (impl_crcBit.same _ _ _).mono ?_;rintro e w' ⟨rfl,rfl⟩) | (at_builtin;go_loud (refine Kd.R_append (Kd.int .u8) (w0:=w0) w0.heap.size rfl (.tmp 97) (.tmp 98) 22 5 (.int .u8 0) 1 rfl Try.underlying22 infoU8w rfl (by decide) (by omega) v s.data 0 [.int .u8 0] S (fun _ => False) rfl (slice_sz _ _ _) ?aP (fun _ hk => hk.elim) HF1.out ?aO ?aB ?aS ?aL ?_;(case aP => exact rfl);(case aO => exact HV1.out);(case aB => exact HB1.out);(case aS => exact HB1.out.size);(case aL => omega);intro v1 w1 ho hb hg hat;obtain ⟨g,c1,e1,hpk⟩:=w9_append HP1.out HV1.out hS ho hg;subst e1;have HPK:=Lib.hid hpk;clear ho hb hg hat hc1 hc2 hc5 hc11 hf5 hf11 hpk;obtain ⟨hgp,hpg,p5,q5,hx0,hfx0,hc11,hf11⟩:=W9At.facts HPK.out hS (by omega))))
 go_quiet (fail)
 have HPK4:=Lib.hid (w9_draw (w9_mid (V := .slice (some ⟨g,0,none⟩) (s.data.length + 1) c1) HPK.out hS) nq)
 clear hgp hpg p5 q5 hx0 hfx0 hc11 hf11
 generalize World.drewN _ nq = W4 at HPK4 ⊢
 obtain ⟨-, -, -, -,hx4,hfx4, -, -⟩:=W9At.facts HPK4.out hS (by omega)
 have HPUT:=Lib.hid (w9_put HPK4.out hS (Go.bits .or .u8 (rd (s.data ++ [0]) (s.data.length : Int) * 2 % 256) 0))
 go_wp2_with (fail)
 (refine (impl_walk_next.calls p _ ({ s with sum:=crcI s.sum 0 }) _ HPUT.out.obj OK.out.d0 OK.out.l0 OK.out.l1 OK.out.f0 OK.out.f1).mono ?_;intro e w2 hE;have HE:=Lib.hid hE;obtain rfl:=hE.ret;clear hE)
 go_wp2_with (fail)
 go_end0
 rw [plain9_eq s 0 (by omega) HF.out (s.data ++ [0]) s.data.length (by rw [if_pos HHM.out]) (by simp) (rd_range (fun x hx => by rcases List.mem_append.1 hx with h | h;exact OK.out.by_ x h;rw [List.mem_singleton] at h;omega) _)]
 exact ⟨rfl,⟨_,HE.out.obj,HE.out.tch.R HPUT.out.row (fun k hk e => hS (e ▸ hk))⟩,(HT1.out.trans HPUT.out.tch).trans (HE.out.tch.mono fun k hk => .inl hk)⟩
set_option maxHeartbeats 1000000 in
set_option maxRecDepth 100000 in
theorem plain_9_0_in (p : Nat) (v : Value) (s : WS) (S : Nat → Prop) (w0 w : World) (hp : w.heap[p]? = some (objW s v)) (hv : Kd.R (Kd.int .u8) 5 w w0.heap.size S v s.data) (hB : Below w0.heap.size w0 w) (hpl : w0.heap.size ≤ p) (hS : ¬ S p) (hF : ∀ k,w.heap.size ≤ k → S k) (ok : WOk s) (hfld : s.field = 9) (hm8 : ¬ s.left % 8 = 0) :
  Calls Try.prog 156 #[.pointer (some ⟨p,0,none⟩), .int .i64 0] w (EndP w0 w p S (plainW s 0)):=by
 have HP:=Lib.hid hp
 have HV:=Lib.hid hv
 have HB:=Lib.hid hB
 have OK:=Lib.hid ok
 have HF:=Lib.hid hfld
 have hc1:=cW1 hp
 have hc2:=cW2 hp
 have hc5:=cW5 hp
 have hc11:=cW11 hp
 have hf5:=fW hp 5
 have hf11:=fW hp 11
 have l0:=ok.l0
 have l1:=ok.l1
 have hdl:=ok.dl
 have hm : (Int.tmod s.left 8 == 0) = false:=by rw [Int.tmod_eq_emod_of_nonneg (by omega)];simp;omega
 have hm2 : (s.left % 8 == 0) = false:=by simp;omega
 rw [hfld] at hc1
 have HP1:=Lib.hid (setW5 HP.out (crcI s.sum 0))
 have HV1 : Hid (Kd.R (Kd.int .u8) 5 (w.setCell ⟨p,5,none⟩ (.int .i64 (crcI s.sum 0))) w0.heap.size S v s.data):=Lib.hid (Kd.R_step HV.out (fun k hk _ => Below.heap_setCell _ _ _ k (fun e => hS ((show k = p from e) ▸ hk))))
 have HB1 : Hid (Below w0.heap.size w0 (w.setCell ⟨p,5,none⟩ (.int .i64 (crcI s.sum 0)))):=Lib.hid (HB.out.setCell hpl _)
 have HT1 : Hid (Tch w (w.setCell ⟨p,5,none⟩ (.int .i64 (crcI s.sum 0))) (fun k => k = p ∨ S k)):=Lib.hid ((Tch.refl _ _).setCell (.inl (.inl rfl)) _)
 have HF1 : Hid (∀ k,(w.setCell ⟨p,5,none⟩ (.int .i64 (crcI s.sum 0))).heap.size ≤ k → S k):=Lib.hid fun k hk => hF k (by simpa [World.setCell] using hk)
 have HHM:=Lib.hid hm8
 clear hp hv hB ok hfld hm8 hF
 obtain ⟨m,hm0⟩ : ∃ m,s.data.length = m + 1:=⟨s.data.length - 1,by have h1:=OK.out.ne HF.out HHM.out;have:=List.length_pos_iff.2 h1;omega⟩
 obtain ⟨g,c1,e1,hpk⟩:=w9_same HP1.out HV1.out hm0
 subst e1
 have HPK:=Lib.hid hpk
 have HM0:=Lib.hid hm0
 have hmb : m < 1000:=by omega
 clear hpk hm0
 obtain ⟨hgp,hpg,p5,q5,hx0,hfx0,hc11b,hf11b⟩:=W9At.facts HPK.out hS hmb
 go_enter Try.func156,Try.ntmps156
 go_wp2_with (first | (go_at_call 78;refine (impl_crcBit.same _ _ _).mono ?_;rintro e w' ⟨rfl,rfl⟩))
 go_quiet (fail)
 have HPK4:=Lib.hid (w9_draw HPK.out nq)
 clear hgp hpg p5 q5 hx0 hfx0 hc11b hf11b hc1 hc2 hc5 hf5 hc11 hf11
 generalize World.drewN _ nq = W4 at HPK4 ⊢
 obtain ⟨-, -, -, -,hx4,hfx4, -, -⟩:=W9At.facts HPK4.out hS hmb
 have HPUT:=Lib.hid (w9_put HPK4.out hS (Go.bits .or .u8 (rd s.data (m : Int) * 2 % 256) 0))
 go_wp2_with (fail)
 (refine (impl_walk_next.calls p _ ({ s with sum:=crcI s.sum 0 }) _ HPUT.out.obj OK.out.d0 OK.out.l0 OK.out.l1 OK.out.f0 OK.out.f1).mono ?_;intro e w2 hE;have HE:=Lib.hid hE;obtain rfl:=hE.ret;clear hE)
 go_wp2_with (fail)
 go_end0
 rw [plain9_eq s 0 (by omega) HF.out s.data m (by rw [if_neg HHM.out]) HM0.out (rd_range OK.out.by_ _)]
 exact ⟨rfl,⟨_,HE.out.obj,HE.out.tch.R HPUT.out.row (fun k hk e => hS (e ▸ hk))⟩,(HT1.out.trans HPUT.out.tch).trans (HE.out.tch.mono fun k hk => .inl hk)⟩
set_option maxHeartbeats 1000000 in
set_option maxRecDepth 100000 in
theorem plain_9_1_app (p : Nat) (v : Value) (s : WS) (S : Nat → Prop) (w0 w : World) (hp : w.heap[p]? = some (objW s v)) (hv : Kd.R (Kd.int .u8) 5 w w0.heap.size S v s.data) (hB : Below w0.heap.size w0 w) (hpl : w0.heap.size ≤ p) (hS : ¬ S p) (hF : ∀ k,w.heap.size ≤ k → S k) (ok : WOk s) (hfld : s.field = 9) (hm8 : s.left % 8 = 0) :
  Calls Try.prog 156 #[.pointer (some ⟨p,0,none⟩), .int .i64 1] w (EndP w0 w p S (plainW s 1)):=by
 have HP:=Lib.hid hp
 have HV:=Lib.hid hv
 have HB:=Lib.hid hB
 have OK:=Lib.hid ok
 have HF:=Lib.hid hfld
 have hc1:=cW1 hp
 have hc2:=cW2 hp
 have hc5:=cW5 hp
 have hc11:=cW11 hp
 have hf5:=fW hp 5
 have hf11:=fW hp 11
 have l0:=ok.l0
 have l1:=ok.l1
 have hdl:=ok.dl
 have hm : (Int.tmod s.left 8 == 0) = true:=by rw [Int.tmod_eq_emod_of_nonneg (by omega)];simp;omega
 have hm2 : (s.left % 8 == 0) = true:=by simp;omega
 rw [hfld] at hc1
 have HP1:=Lib.hid (setW5 HP.out (crcI s.sum 1))
 have HV1 : Hid (Kd.R (Kd.int .u8) 5 (w.setCell ⟨p,5,none⟩ (.int .i64 (crcI s.sum 1))) w0.heap.size S v s.data):=Lib.hid (Kd.R_step HV.out (fun k hk _ => Below.heap_setCell _ _ _ k (fun e => hS ((show k = p from e) ▸ hk))))
 have HB1 : Hid (Below w0.heap.size w0 (w.setCell ⟨p,5,none⟩ (.int .i64 (crcI s.sum 1)))):=Lib.hid (HB.out.setCell hpl _)
 have HT1 : Hid (Tch w (w.setCell ⟨p,5,none⟩ (.int .i64 (crcI s.sum 1))) (fun k => k = p ∨ S k)):=Lib.hid ((Tch.refl _ _).setCell (.inl (.inl rfl)) _)
 have HF1 : Hid (∀ k,(w.setCell ⟨p,5,none⟩ (.int .i64 (crcI s.sum 1))).heap.size ≤ k → S k):=Lib.hid fun k hk => hF k (by simpa [World.setCell] using hk)
 have HHM:=Lib.hid hm8
 clear hp hv hB ok hfld hm8 hF
 go_enter Try.func156,Try.ntmps156
 go_wp2_with (first | (go_at_call 78;refine (impl_crcBit.same _ _ _).mono ?_;rintro e w' ⟨rfl,rfl⟩) | (at_builtin;go_loud (refine Kd.R_append (Kd.int .u8) (w0:=w0) w0.heap.size rfl (.tmp 97) (.tmp 98) 22 5 (.int .u8 0) 1 rfl Try.underlying22 infoU8w rfl (by decide) (by omega) v s.data 0 [.int .u8 0] S (fun _ => False) rfl (slice_sz _ _ _) ?aP (fun _ hk => hk.elim) HF1.out ?aO ?aB ?aS ?aL ?_;(case aP => exact rfl);(case aO => exact HV1.out);(case aB => exact HB1.out);(case aS => exact HB1.out.size);(case aL => omega);intro v1 w1 ho hb hg hat;obtain ⟨g,c1,e1,hpk⟩:=w9_append HP1.out HV1.out hS ho hg;subst e1;have HPK:=Lib.hid hpk;clear ho hb hg hat hc1 hc2 hc5 hc11 hf5 hf11 hpk;obtain ⟨hgp,hpg,p5,q5,hx0,hfx0,hc11,hf11⟩:=W9At.facts HPK.out hS (by omega))))
 go_quiet (fail)
 have HPK4:=Lib.hid (w9_draw (w9_mid (V := .slice (some ⟨g,0,none⟩) (s.data.length + 1) c1) HPK.out hS) nq)
 clear hgp hpg p5 q5 hx0 hfx0 hc11 hf11
 generalize World.drewN _ nq = W4 at HPK4 ⊢
 obtain ⟨-, -, -, -,hx4,hfx4, -, -⟩:=W9At.facts HPK4.out hS (by omega)
 have HPUT:=Lib.hid (w9_put HPK4.out hS (Go.bits .or .u8 (rd (s.data ++ [0]) (s.data.length : Int) * 2 % 256) 1))
 go_wp2_with (fail)
 (refine (impl_walk_next.calls p _ ({ s with sum:=crcI s.sum 1 }) _ HPUT.out.obj OK.out.d0 OK.out.l0 OK.out.l1 OK.out.f0 OK.out.f1).mono ?_;intro e w2 hE;have HE:=Lib.hid hE;obtain rfl:=hE.ret;clear hE)
 go_wp2_with (fail)
 go_end0
 rw [plain9_eq s 1 (by omega) HF.out (s.data ++ [0]) s.data.length (by rw [if_pos HHM.out]) (by simp) (rd_range (fun x hx => by rcases List.mem_append.1 hx with h | h;exact OK.out.by_ x h;rw [List.mem_singleton] at h;omega) _)]
 exact ⟨rfl,⟨_,HE.out.obj,HE.out.tch.R HPUT.out.row (fun k hk e => hS (e ▸ hk))⟩,(HT1.out.trans HPUT.out.tch).trans (HE.out.tch.mono fun k hk => .inl hk)⟩
set_option maxHeartbeats 1000000 in
set_option maxRecDepth 100000 in
theorem plain_9_1_in (p : Nat) (v : Value) (s : WS) (S : Nat → Prop) (w0 w : World) (hp : w.heap[p]? = some (objW s v)) (hv : Kd.R (Kd.int .u8) 5 w w0.heap.size S v s.data) (hB : Below w0.heap.size w0 w) (hpl : w0.heap.size ≤ p) (hS : ¬ S p) (hF : ∀ k,w.heap.size ≤ k → S k) (ok : WOk s) (hfld : s.field = 9) (hm8 : ¬ s.left % 8 = 0) :
  Calls Try.prog 156 #[.pointer (some ⟨p,0,none⟩), .int .i64 1] w (EndP w0 w p S (plainW s 1)):=by
 have HP:=Lib.hid hp
 have HV:=Lib.hid hv
 have HB:=Lib.hid hB
 have OK:=Lib.hid ok
 have HF:=Lib.hid hfld
 have hc1:=cW1 hp
 have hc2:=cW2 hp
 have hc5:=cW5 hp
 have hc11:=cW11 hp
 have hf5:=fW hp 5
 have hf11:=fW hp 11
 have l0:=ok.l0
 have l1:=ok.l1
 have hdl:=ok.dl
 have hm : (Int.tmod s.left 8 == 0) = false:=by rw [Int.tmod_eq_emod_of_nonneg (by omega)];simp;omega
 have hm2 : (s.left % 8 == 0) = false:=by simp;omega
 rw [hfld] at hc1
 have HP1:=Lib.hid (setW5 HP.out (crcI s.sum 1))
 have HV1 : Hid (Kd.R (Kd.int .u8) 5 (w.setCell ⟨p,5,none⟩ (.int .i64 (crcI s.sum 1))) w0.heap.size S v s.data):=Lib.hid (Kd.R_step HV.out (fun k hk _ => Below.heap_setCell _ _ _ k (fun e => hS ((show k = p from e) ▸ hk))))
 have HB1 : Hid (Below w0.heap.size w0 (w.setCell ⟨p,5,none⟩ (.int .i64 (crcI s.sum 1)))):=Lib.hid (HB.out.setCell hpl _)
 have HT1 : Hid (Tch w (w.setCell ⟨p,5,none⟩ (.int .i64 (crcI s.sum 1))) (fun k => k = p ∨ S k)):=Lib.hid ((Tch.refl _ _).setCell (.inl (.inl rfl)) _)
 have HF1 : Hid (∀ k,(w.setCell ⟨p,5,none⟩ (.int .i64 (crcI s.sum 1))).heap.size ≤ k → S k):=Lib.hid fun k hk => hF k (by simpa [World.setCell] using hk)
 have HHM:=Lib.hid hm8
 clear hp hv hB ok hfld hm8 hF
 obtain ⟨m,hm0⟩ : ∃ m,s.data.length = m + 1:=⟨s.data.length - 1,by have h1:=OK.out.ne HF.out HHM.out;have:=List.length_pos_iff.2 h1;omega⟩
 obtain ⟨g,c1,e1,hpk⟩:=w9_same HP1.out HV1.out hm0
 subst e1
 have HPK:=Lib.hid hpk
 have HM0:=Lib.hid hm0
 have hmb : m < 1000:=by omega
 clear hpk hm0
 obtain ⟨hgp,hpg,p5,q5,hx0,hfx0,hc11b,hf11b⟩:=W9At.facts HPK.out hS hmb
 go_enter Try.func156,Try.ntmps156
 go_wp2_with (first | (go_at_call 78;refine (impl_crcBit.same _ _ _).mono ?_;rintro e w' ⟨rfl,rfl⟩))
 go_quiet (fail)
 have HPK4:=Lib.hid (w9_draw HPK.out nq)
 clear hgp hpg p5 q5 hx0 hfx0 hc11b hf11b hc1 hc2 hc5 hf5 hc11 hf11
 generalize World.drewN _ nq = W4 at HPK4 ⊢
 obtain ⟨-, -, -, -,hx4,hfx4, -, -⟩:=W9At.facts HPK4.out hS hmb
 have HPUT:=Lib.hid (w9_put HPK4.out hS (Go.bits .or .u8 (rd s.data (m : Int) * 2 % 256) 1))
 go_wp2_with (fail)
 (refine (impl_walk_next.calls p _ ({ s with sum:=crcI s.sum 1 }) _ HPUT.out.obj OK.out.d0 OK.out.l0 OK.out.l1 OK.out.f0 OK.out.f1).mono ?_;intro e w2 hE;have HE:=Lib.hid hE;obtain rfl:=hE.ret;clear hE)
 go_wp2_with (fail)
 go_end0
 rw [plain9_eq s 1 (by omega) HF.out s.data m (by rw [if_neg HHM.out]) HM0.out (rd_range OK.out.by_ _)]
 exact ⟨rfl,⟨_,HE.out.obj,HE.out.tch.R HPUT.out.row (fun k hk e => hS (e ▸ hk))⟩,(HT1.out.trans HPUT.out.tch).trans (HE.out.tch.mono fun k hk => .inl hk)⟩
end Go.Proofs.Ytdoclpgciadjaaa.P

namespace Go.Proofs.Ytdoclpgciadjaaa.P
open Go.RowKit Go.Proofs.YtdoclpgciadjaaaW.PrintWords Go.Proofs.YtdoclpgciadjaaaW.PrintLast Go.Proofs.YtdoclpgciadjaaaW.PrintMore
set_option linter.unusedVariables false
set_option linter.unusedSimpArgs false
theorem endW_left (s : WS) (b : Int) : (endW s b).left = s.left:=by unfold endW;(repeat' split) <;> rfl
theorem endW_field (s : WS) (b : Int) : (endW s b).field = s.field:=by unfold endW;(repeat' split) <;> rfl
theorem endW_dlc (s : WS) (b : Int) : (endW s b).dlc = s.dlc:=by unfold endW;(repeat' split) <;> rfl
theorem plain_1_0 (p : Nat) (v : Value) (s : WS) (w : World) (hp : w.heap[p]? = some (objW s v)) (ok : WOk s) (hfld : s.field = 1) :
  Calls Try.prog 156 #[.pointer (some ⟨p,0,none⟩), .int .i64 0] w (EndW w p (plainW s 0) v):=by
 have HP:=Lib.hid hp
 have hc1:=cW1 hp
 have hc5:=cW5 hp
 have hf5:=fW hp 5
 have HF:=Lib.hid hfld
 have OK:=Lib.hid ok
 have hL : Hid (plainW s 0 = nextW { s with sum:=crcI s.sum 0 }):=Lib.hid (by
  have e0 : sumW s 0 = { s with sum:=crcI s.sum 0 }:=by unfold sumW;rw [if_pos (by omega)]
  unfold plainW
  rw [e0]
  unfold takeW
  simp only [hfld]
  rfl)
 rw [hfld] at hc1
 clear hp hfld ok
 go_enter Try.func156,Try.ntmps156
 go_wp2_with (first | (go_at_call 78;refine (impl_crcBit.same _ _ _).mono ?_;rintro e w' ⟨rfl,rfl⟩))
 (refine (impl_walk_next.calls p v ({ s with sum:=crcI s.sum 0 }) _ (setW5 HP.out _) OK.out.d0 OK.out.l0 OK.out.l1 OK.out.f0 OK.out.f1).mono ?_;intro e w2 hE;have HE:=Lib.hid hE;obtain rfl:=hE.ret;clear hE)
 go_wp2_with (fail)
 go_end0
 rw [hL.out]
 exact ⟨rfl,HE.out.obj,((Tch.refl1 _ _).one 5 _).trans HE.out.tch⟩
theorem plain_1_1 (p : Nat) (v : Value) (s : WS) (w : World) (hp : w.heap[p]? = some (objW s v)) (ok : WOk s) (hfld : s.field = 1) :
  Calls Try.prog 156 #[.pointer (some ⟨p,0,none⟩), .int .i64 1] w (EndW w p (plainW s 1) v):=by
 have HP:=Lib.hid hp
 have hc1:=cW1 hp
 have hc5:=cW5 hp
 have hf5:=fW hp 5
 have hf0:=fW hp 0
 have hc0:=cW0 hp
 have HF:=Lib.hid hfld
 have OK:=Lib.hid ok
 have hL : Hid (plainW s 1 = nextW { s with sum:=crcI s.sum 1,code:=4 }):=Lib.hid (by
  have e0 : sumW s 1 = { s with sum:=crcI s.sum 1 }:=by unfold sumW;rw [if_pos (by omega)]
  unfold plainW
  rw [e0]
  unfold takeW
  simp only [hfld]
  rfl)
 rw [hfld] at hc1
 clear hp hfld ok
 go_enter Try.func156,Try.ntmps156
 go_wp2_with (first | (go_at_call 78;refine (impl_crcBit.same _ _ _).mono ?_;rintro e w' ⟨rfl,rfl⟩))
 (refine (impl_walk_next.calls p v ({ s with sum:=crcI s.sum 1,code:=4 }) _ (setW0 (setW5 HP.out _) _) OK.out.d0 OK.out.l0 OK.out.l1 OK.out.f0 OK.out.f1).mono ?_;intro e w2 hE;have HE:=Lib.hid hE;obtain rfl:=hE.ret;clear hE)
 go_wp2_with (fail)
 go_end0
 rw [hL.out]
 exact ⟨rfl,HE.out.obj,(((Tch.refl1 _ _).one 5 _).one 0 _).trans HE.out.tch⟩
theorem plain_2_0 (p : Nat) (v : Value) (s : WS) (w : World) (hp : w.heap[p]? = some (objW s v)) (ok : WOk s) (hfld : s.field = 2) :
  Calls Try.prog 156 #[.pointer (some ⟨p,0,none⟩), .int .i64 0] w (EndW w p (plainW s 0) v):=by
 have HP:=Lib.hid hp
 have hc1:=cW1 hp
 have hc5:=cW5 hp
 have hc8:=cW8 hp
 have hf5:=fW hp 5
 have hf8:=fW hp 8
 have HF:=Lib.hid hfld
 have OK:=Lib.hid ok
 have hL : Hid (plainW s 0 = nextW { s with sum:=crcI s.sum 0,id:=Go.bits .or .u32 (s.id * 2 % 4294967296) 0 }):=Lib.hid (by
  have e0 : sumW s 0 = { s with sum:=crcI s.sum 0 }:=by unfold sumW;rw [if_pos (by omega)]
  unfold plainW
  rw [e0]
  unfold takeW
  simp only [hfld]
  rw [or_u32 s.id 0 ok.i0 (by omega)]
  rfl)
 rw [hfld] at hc1
 clear hp hfld ok
 go_enter Try.func156,Try.ntmps156
 go_wp2_with (first | (go_at_call 78;refine (impl_crcBit.same _ _ _).mono ?_;rintro e w' ⟨rfl,rfl⟩))
 (refine (impl_walk_next.calls p v ({ s with sum:=crcI s.sum 0,id:=Go.bits .or .u32 (s.id * 2 % 4294967296) 0 }) _ (setW8 (setW5 HP.out _) _) OK.out.d0 OK.out.l0 OK.out.l1 OK.out.f0 OK.out.f1).mono ?_;intro e w2 hE;have HE:=Lib.hid hE;obtain rfl:=hE.ret;clear hE)
 go_wp2_with (fail)
 go_end0
 rw [hL.out]
 exact ⟨rfl,HE.out.obj,(((Tch.refl1 _ _).one 5 _).one 8 _).trans HE.out.tch⟩
theorem plain_2_1 (p : Nat) (v : Value) (s : WS) (w : World) (hp : w.heap[p]? = some (objW s v)) (ok : WOk s) (hfld : s.field = 2) :
  Calls Try.prog 156 #[.pointer (some ⟨p,0,none⟩), .int .i64 1] w (EndW w p (plainW s 1) v):=by
 have HP:=Lib.hid hp
 have hc1:=cW1 hp
 have hc5:=cW5 hp
 have hc8:=cW8 hp
 have hf5:=fW hp 5
 have hf8:=fW hp 8
 have HF:=Lib.hid hfld
 have OK:=Lib.hid ok
 have hL : Hid (plainW s 1 = nextW { s with sum:=crcI s.sum 1,id:=Go.bits .or .u32 (s.id * 2 % 4294967296) 1 }):=Lib.hid (by
  have e0 : sumW s 1 = { s with sum:=crcI s.sum 1 }:=by unfold sumW;rw [if_pos (by omega)]
  unfold plainW
  rw [e0]
  unfold takeW
  simp only [hfld]
  rw [or_u32 s.id 1 ok.i0 (by omega)]
  rfl)
 rw [hfld] at hc1
 clear hp hfld ok
 go_enter Try.func156,Try.ntmps156
 go_wp2_with (first | (go_at_call 78;refine (impl_crcBit.same _ _ _).mono ?_;rintro e w' ⟨rfl,rfl⟩))
 (refine (impl_walk_next.calls p v ({ s with sum:=crcI s.sum 1,id:=Go.bits .or .u32 (s.id * 2 % 4294967296) 1 }) _ (setW8 (setW5 HP.out _) _) OK.out.d0 OK.out.l0 OK.out.l1 OK.out.f0 OK.out.f1).mono ?_;intro e w2 hE;have HE:=Lib.hid hE;obtain rfl:=hE.ret;clear hE)
 go_wp2_with (fail)
 go_end0
 rw [hL.out]
 exact ⟨rfl,HE.out.obj,(((Tch.refl1 _ _).one 5 _).one 8 _).trans HE.out.tch⟩
theorem plain_3_0 (p : Nat) (v : Value) (s : WS) (w : World) (hp : w.heap[p]? = some (objW s v)) (ok : WOk s) (hfld : s.field = 3) :
  Calls Try.prog 156 #[.pointer (some ⟨p,0,none⟩), .int .i64 0] w (EndW w p (plainW s 0) v):=by
 have HP:=Lib.hid hp
 have hc1:=cW1 hp
 have hc5:=cW5 hp
 have hc9:=cW9 hp
 have hf5:=fW hp 5
 have hf9:=fW hp 9
 have HF:=Lib.hid hfld
 have OK:=Lib.hid ok
 have hL : Hid (plainW s 0 = nextW { s with sum:=crcI s.sum 0,rtr:=false }):=Lib.hid (by
  have e0 : sumW s 0 = { s with sum:=crcI s.sum 0 }:=by unfold sumW;rw [if_pos (by omega)]
  unfold plainW
  rw [e0]
  unfold takeW
  simp only [hfld]
  rfl)
 rw [hfld] at hc1
 clear hp hfld ok
 go_enter Try.func156,Try.ntmps156
 go_wp2_with (first | (go_at_call 78;refine (impl_crcBit.same _ _ _).mono ?_;rintro e w' ⟨rfl,rfl⟩))
 (refine (impl_walk_next.calls p v ({ s with sum:=crcI s.sum 0,rtr:=false }) _ (setW9 (setW5 HP.out _) _) OK.out.d0 OK.out.l0 OK.out.l1 OK.out.f0 OK.out.f1).mono ?_;intro e w2 hE;have HE:=Lib.hid hE;obtain rfl:=hE.ret;clear hE)
 go_wp2_with (fail)
 go_end0
 rw [hL.out]
 exact ⟨rfl,HE.out.obj,(((Tch.refl1 _ _).one 5 _).one 9 _).trans HE.out.tch⟩
theorem plain_3_1 (p : Nat) (v : Value) (s : WS) (w : World) (hp : w.heap[p]? = some (objW s v)) (ok : WOk s) (hfld : s.field = 3) :
  Calls Try.prog 156 #[.pointer (some ⟨p,0,none⟩), .int .i64 1] w (EndW w p (plainW s 1) v):=by
 have HP:=Lib.hid hp
 have hc1:=cW1 hp
 have hc5:=cW5 hp
 have hc9:=cW9 hp
 have hf5:=fW hp 5
 have hf9:=fW hp 9
 have HF:=Lib.hid hfld
 have OK:=Lib.hid ok
 have hL : Hid (plainW s 1 = nextW { s with sum:=crcI s.sum 1,rtr:=true }):=Lib.hid (by
  have e0 : sumW s 1 = { s with sum:=crcI s.sum 1 }:=by unfold sumW;rw [if_pos (by omega)]
  unfold plainW
  rw [e0]
  unfold takeW
  simp only [hfld]
  rfl)
 rw [hfld] at hc1
 clear hp hfld ok
 go_enter Try.func156,Try.ntmps156
 go_wp2_with (first | (go_at_call 78;refine (impl_crcBit.same _ _ _).mono ?_;rintro e w' ⟨rfl,rfl⟩))
 (refine (impl_walk_next.calls p v ({ s with sum:=crcI s.sum 1,rtr:=true }) _ (setW9 (setW5 HP.out _) _) OK.out.d0 OK.out.l0 OK.out.l1 OK.out.f0 OK.out.f1).mono ?_;intro e w2 hE;have HE:=Lib.hid hE;obtain rfl:=hE.ret;clear hE)
 go_wp2_with (fail)
 go_end0
 rw [hL.out]
 exact ⟨rfl,HE.out.obj,(((Tch.refl1 _ _).one 5 _).one 9 _).trans HE.out.tch⟩
theorem plain_4_0 (p : Nat) (v : Value) (s : WS) (w : World) (hp : w.heap[p]? = some (objW s v)) (ok : WOk s) (hfld : s.field = 4) :
  Calls Try.prog 156 #[.pointer (some ⟨p,0,none⟩), .int .i64 0] w (EndW w p (plainW s 0) v):=by
 have HP:=Lib.hid hp
 have hc1:=cW1 hp
 have hc5:=cW5 hp
 have hc7:=cW7 hp
 have hf5:=fW hp 5
 have hf7:=fW hp 7
 have HF:=Lib.hid hfld
 have OK:=Lib.hid ok
 have hL : Hid (plainW s 0 = nextW { s with sum:=crcI s.sum 0,ext:=false }):=Lib.hid (by
  have e0 : sumW s 0 = { s with sum:=crcI s.sum 0 }:=by unfold sumW;rw [if_pos (by omega)]
  unfold plainW
  rw [e0]
  unfold takeW
  simp only [hfld]
  rfl)
 rw [hfld] at hc1
 clear hp hfld ok
 go_enter Try.func156,Try.ntmps156
 go_wp2_with (first | (go_at_call 78;refine (impl_crcBit.same _ _ _).mono ?_;rintro e w' ⟨rfl,rfl⟩))
 (refine (impl_walk_next.calls p v ({ s with sum:=crcI s.sum 0,ext:=false }) _ (setW7 (setW5 HP.out _) _) OK.out.d0 OK.out.l0 OK.out.l1 OK.out.f0 OK.out.f1).mono ?_;intro e w2 hE;have HE:=Lib.hid hE;obtain rfl:=hE.ret;clear hE)
 go_wp2_with (fail)
 go_end0
 rw [hL.out]
 exact ⟨rfl,HE.out.obj,(((Tch.refl1 _ _).one 5 _).one 7 _).trans HE.out.tch⟩
theorem plain_4_1 (p : Nat) (v : Value) (s : WS) (w : World) (hp : w.heap[p]? = some (objW s v)) (ok : WOk s) (hfld : s.field = 4) :
  Calls Try.prog 156 #[.pointer (some ⟨p,0,none⟩), .int .i64 1] w (EndW w p (plainW s 1) v):=by
 have HP:=Lib.hid hp
 have hc1:=cW1 hp
 have hc5:=cW5 hp
 have hc7:=cW7 hp
 have hf5:=fW hp 5
 have hf7:=fW hp 7
 have HF:=Lib.hid hfld
 have OK:=Lib.hid ok
 have hL : Hid (plainW s 1 = nextW { s with sum:=crcI s.sum 1,ext:=true }):=Lib.hid (by
  have e0 : sumW s 1 = { s with sum:=crcI s.sum 1 }:=by unfold sumW;rw [if_pos (by omega)]
  unfold plainW
  rw [e0]
  unfold takeW
  simp only [hfld]
  rfl)
 rw [hfld] at hc1
 clear hp hfld ok
 go_enter Try.func156,Try.ntmps156
 go_wp2_with (first | (go_at_call 78;refine (impl_crcBit.same _ _ _).mono ?_;rintro e w' ⟨rfl,rfl⟩))
 (refine (impl_walk_next.calls p v ({ s with sum:=crcI s.sum 1,ext:=true }) _ (setW7 (setW5 HP.out _) _) OK.out.d0 OK.out.l0 OK.out.l1 OK.out.f0 OK.out.f1).mono ?_;intro e w2 hE;have HE:=Lib.hid hE;obtain rfl:=hE.ret;clear hE)
 go_wp2_with (fail)
 go_end0
 rw [hL.out]
 exact ⟨rfl,HE.out.obj,(((Tch.refl1 _ _).one 5 _).one 7 _).trans HE.out.tch⟩
theorem plain_5_0 (p : Nat) (v : Value) (s : WS) (w : World) (hp : w.heap[p]? = some (objW s v)) (ok : WOk s) (hfld : s.field = 5) :
  Calls Try.prog 156 #[.pointer (some ⟨p,0,none⟩), .int .i64 0] w (EndW w p (plainW s 0) v):=by
 have HP:=Lib.hid hp
 have hc1:=cW1 hp
 have hc5:=cW5 hp
 have hc8:=cW8 hp
 have hf5:=fW hp 5
 have hf8:=fW hp 8
 have HF:=Lib.hid hfld
 have OK:=Lib.hid ok
 have hL : Hid (plainW s 0 = nextW { s with sum:=crcI s.sum 0,id:=Go.bits .or .u32 (s.id * 2 % 4294967296) 0 }):=Lib.hid (by
  have e0 : sumW s 0 = { s with sum:=crcI s.sum 0 }:=by unfold sumW;rw [if_pos (by omega)]
  unfold plainW
  rw [e0]
  unfold takeW
  simp only [hfld]
  rw [or_u32 s.id 0 ok.i0 (by omega)]
  rfl)
 rw [hfld] at hc1
 clear hp hfld ok
 go_enter Try.func156,Try.ntmps156
 go_wp2_with (first | (go_at_call 78;refine (impl_crcBit.same _ _ _).mono ?_;rintro e w' ⟨rfl,rfl⟩))
 (refine (impl_walk_next.calls p v ({ s with sum:=crcI s.sum 0,id:=Go.bits .or .u32 (s.id * 2 % 4294967296) 0 }) _ (setW8 (setW5 HP.out _) _) OK.out.d0 OK.out.l0 OK.out.l1 OK.out.f0 OK.out.f1).mono ?_;intro e w2 hE;have HE:=Lib.hid hE;obtain rfl:=hE.ret;clear hE)
 go_wp2_with (fail)
 go_end0
 rw [hL.out]
 exact ⟨rfl,HE.out.obj,(((Tch.refl1 _ _).one 5 _).one 8 _).trans HE.out.tch⟩
theorem plain_5_1 (p : Nat) (v : Value) (s : WS) (w : World) (hp : w.heap[p]? = some (objW s v)) (ok : WOk s) (hfld : s.field = 5) :
  Calls Try.prog 156 #[.pointer (some ⟨p,0,none⟩), .int .i64 1] w (EndW w p (plainW s 1) v):=by
 have HP:=Lib.hid hp
 have hc1:=cW1 hp
 have hc5:=cW5 hp
 have hc8:=cW8 hp
 have hf5:=fW hp 5
 have hf8:=fW hp 8
 have HF:=Lib.hid hfld
 have OK:=Lib.hid ok
 have hL : Hid (plainW s 1 = nextW { s with sum:=crcI s.sum 1,id:=Go.bits .or .u32 (s.id * 2 % 4294967296) 1 }):=Lib.hid (by
  have e0 : sumW s 1 = { s with sum:=crcI s.sum 1 }:=by unfold sumW;rw [if_pos (by omega)]
  unfold plainW
  rw [e0]
  unfold takeW
  simp only [hfld]
  rw [or_u32 s.id 1 ok.i0 (by omega)]
  rfl)
 rw [hfld] at hc1
 clear hp hfld ok
 go_enter Try.func156,Try.ntmps156
 go_wp2_with (first | (go_at_call 78;refine (impl_crcBit.same _ _ _).mono ?_;rintro e w' ⟨rfl,rfl⟩))
 (refine (impl_walk_next.calls p v ({ s with sum:=crcI s.sum 1,id:=Go.bits .or .u32 (s.id * 2 % 4294967296) 1 }) _ (setW8 (setW5 HP.out _) _) OK.out.d0 OK.out.l0 OK.out.l1 OK.out.f0 OK.out.f1).mono ?_;intro e w2 hE;have HE:=Lib.hid hE;obtain rfl:=hE.ret;clear hE)
 go_wp2_with (fail)
 go_end0
 rw [hL.out]
 exact ⟨rfl,HE.out.obj,(((Tch.refl1 _ _).one 5 _).one 8 _).trans HE.out.tch⟩
theorem plain_6_0 (p : Nat) (v : Value) (s : WS) (w : World) (hp : w.heap[p]? = some (objW s v)) (ok : WOk s) (hfld : s.field = 6) :
  Calls Try.prog 156 #[.pointer (some ⟨p,0,none⟩), .int .i64 0] w (EndW w p (plainW s 0) v):=by
 have HP:=Lib.hid hp
 have hc1:=cW1 hp
 have hc5:=cW5 hp
 have hc9:=cW9 hp
 have hf5:=fW hp 5
 have hf9:=fW hp 9
 have HF:=Lib.hid hfld
 have OK:=Lib.hid ok
 have hL : Hid (plainW s 0 = nextW { s with sum:=crcI s.sum 0,rtr:=false }):=Lib.hid (by
  have e0 : sumW s 0 = { s with sum:=crcI s.sum 0 }:=by unfold sumW;rw [if_pos (by omega)]
  unfold plainW
  rw [e0]
  unfold takeW
  simp only [hfld]
  rfl)
 rw [hfld] at hc1
 clear hp hfld ok
 go_enter Try.func156,Try.ntmps156
 go_wp2_with (first | (go_at_call 78;refine (impl_crcBit.same _ _ _).mono ?_;rintro e w' ⟨rfl,rfl⟩))
 (refine (impl_walk_next.calls p v ({ s with sum:=crcI s.sum 0,rtr:=false }) _ (setW9 (setW5 HP.out _) _) OK.out.d0 OK.out.l0 OK.out.l1 OK.out.f0 OK.out.f1).mono ?_;intro e w2 hE;have HE:=Lib.hid hE;obtain rfl:=hE.ret;clear hE)
 go_wp2_with (fail)
 go_end0
 rw [hL.out]
 exact ⟨rfl,HE.out.obj,(((Tch.refl1 _ _).one 5 _).one 9 _).trans HE.out.tch⟩
theorem plain_6_1 (p : Nat) (v : Value) (s : WS) (w : World) (hp : w.heap[p]? = some (objW s v)) (ok : WOk s) (hfld : s.field = 6) :
  Calls Try.prog 156 #[.pointer (some ⟨p,0,none⟩), .int .i64 1] w (EndW w p (plainW s 1) v):=by
 have HP:=Lib.hid hp
 have hc1:=cW1 hp
 have hc5:=cW5 hp
 have hc9:=cW9 hp
 have hf5:=fW hp 5
 have hf9:=fW hp 9
 have HF:=Lib.hid hfld
 have OK:=Lib.hid ok
 have hL : Hid (plainW s 1 = nextW { s with sum:=crcI s.sum 1,rtr:=true }):=Lib.hid (by
  have e0 : sumW s 1 = { s with sum:=crcI s.sum 1 }:=by unfold sumW;rw [if_pos (by omega)]
  unfold plainW
  rw [e0]
  unfold takeW
  simp only [hfld]
  rfl)
 rw [hfld] at hc1
 clear hp hfld ok
 go_enter Try.func156,Try.ntmps156
 go_wp2_with (first | (go_at_call 78;refine (impl_crcBit.same _ _ _).mono ?_;rintro e w' ⟨rfl,rfl⟩))
 (refine (impl_walk_next.calls p v ({ s with sum:=crcI s.sum 1,rtr:=true }) _ (setW9 (setW5 HP.out _) _) OK.out.d0 OK.out.l0 OK.out.l1 OK.out.f0 OK.out.f1).mono ?_;intro e w2 hE;have HE:=Lib.hid hE;obtain rfl:=hE.ret;clear hE)
 go_wp2_with (fail)
 go_end0
 rw [hL.out]
 exact ⟨rfl,HE.out.obj,(((Tch.refl1 _ _).one 5 _).one 9 _).trans HE.out.tch⟩
theorem plain_7_0 (p : Nat) (v : Value) (s : WS) (w : World) (hp : w.heap[p]? = some (objW s v)) (ok : WOk s) (hfld : s.field = 7) :
  Calls Try.prog 156 #[.pointer (some ⟨p,0,none⟩), .int .i64 0] w (EndW w p (plainW s 0) v):=by
 have HP:=Lib.hid hp
 have hc1:=cW1 hp
 have hc5:=cW5 hp
 have hf5:=fW hp 5
 have HF:=Lib.hid hfld
 have OK:=Lib.hid ok
 have hL : Hid (plainW s 0 = nextW { s with sum:=crcI s.sum 0 }):=Lib.hid (by
  have e0 : sumW s 0 = { s with sum:=crcI s.sum 0 }:=by unfold sumW;rw [if_pos (by omega)]
  unfold plainW
  rw [e0]
  unfold takeW
  simp only [hfld]
  rfl)
 rw [hfld] at hc1
 clear hp hfld ok
 go_enter Try.func156,Try.ntmps156
 go_wp2_with (first | (go_at_call 78;refine (impl_crcBit.same _ _ _).mono ?_;rintro e w' ⟨rfl,rfl⟩))
 (refine (impl_walk_next.calls p v ({ s with sum:=crcI s.sum 0 }) _ (setW5 HP.out _) OK.out.d0 OK.out.l0 OK.out.l1 OK.out.f0 OK.out.f1).mono ?_;intro e w2 hE;have HE:=Lib.hid hE;obtain rfl:=hE.ret;clear hE)
 go_wp2_with (fail)
 go_end0
 rw [hL.out]
 exact ⟨rfl,HE.out.obj,((Tch.refl1 _ _).one 5 _).trans HE.out.tch⟩
theorem plain_7_1 (p : Nat) (v : Value) (s : WS) (w : World) (hp : w.heap[p]? = some (objW s v)) (ok : WOk s) (hfld : s.field = 7) :
  Calls Try.prog 156 #[.pointer (some ⟨p,0,none⟩), .int .i64 1] w (EndW w p (plainW s 1) v):=by
 have HP:=Lib.hid hp
 have hc1:=cW1 hp
 have hc5:=cW5 hp
 have hf5:=fW hp 5
 have HF:=Lib.hid hfld
 have OK:=Lib.hid ok
 have hL : Hid (plainW s 1 = nextW { s with sum:=crcI s.sum 1 }):=Lib.hid (by
  have e0 : sumW s 1 = { s with sum:=crcI s.sum 1 }:=by unfold sumW;rw [if_pos (by omega)]
  unfold plainW
  rw [e0]
  unfold takeW
  simp only [hfld]
  rfl)
 rw [hfld] at hc1
 clear hp hfld ok
 go_enter Try.func156,Try.ntmps156
 go_wp2_with (first | (go_at_call 78;refine (impl_crcBit.same _ _ _).mono ?_;rintro e w' ⟨rfl,rfl⟩))
 (refine (impl_walk_next.calls p v ({ s with sum:=crcI s.sum 1 }) _ (setW5 HP.out _) OK.out.d0 OK.out.l0 OK.out.l1 OK.out.f0 OK.out.f1).mono ?_;intro e w2 hE;have HE:=Lib.hid hE;obtain rfl:=hE.ret;clear hE)
 go_wp2_with (fail)
 go_end0
 rw [hL.out]
 exact ⟨rfl,HE.out.obj,((Tch.refl1 _ _).one 5 _).trans HE.out.tch⟩
theorem plain_8_0 (p : Nat) (v : Value) (s : WS) (w : World) (hp : w.heap[p]? = some (objW s v)) (ok : WOk s) (hfld : s.field = 8) :
  Calls Try.prog 156 #[.pointer (some ⟨p,0,none⟩), .int .i64 0] w (EndW w p (plainW s 0) v):=by
 have HP:=Lib.hid hp
 have hc1:=cW1 hp
 have hc5:=cW5 hp
 have hc10:=cW10 hp
 have hf5:=fW hp 5
 have hf10:=fW hp 10
 have hd0:=ok.d0
 have hd1:=ok.d1
 have HF:=Lib.hid hfld
 have OK:=Lib.hid ok
 have HD : Hid (0 ≤ Go.bits .or .i64 (s.dlc * 2) 0):=Lib.hid (by rw [show s.dlc * 2 = wrap64 (s.dlc * 2) by unfold wrap64;omega,or_i64 s.dlc 0 ok.d0 (by omega) (by omega)];omega)
 have hL : Hid (plainW s 0 = nextW { s with sum:=crcI s.sum 0,dlc:=Go.bits .or .i64 (s.dlc * 2) 0 }):=Lib.hid (by
  have e0 : sumW s 0 = { s with sum:=crcI s.sum 0 }:=by unfold sumW;rw [if_pos (by omega)]
  unfold plainW
  rw [e0]
  unfold takeW
  simp only [hfld]
  rw [show s.dlc * 2 = wrap64 (s.dlc * 2) by unfold wrap64;omega,or_i64 s.dlc 0 ok.d0 (by omega) (by omega)]
  rfl)
 rw [hfld] at hc1
 clear hp hfld ok
 go_enter Try.func156,Try.ntmps156
 go_wp2_with (first | (go_at_call 78;refine (impl_crcBit.same _ _ _).mono ?_;rintro e w' ⟨rfl,rfl⟩))
 (refine (impl_walk_next.calls p v ({ s with sum:=crcI s.sum 0,dlc:=Go.bits .or .i64 (s.dlc * 2) 0 }) _ (setW10 (setW5 HP.out _) _) HD.out OK.out.l0 OK.out.l1 OK.out.f0 OK.out.f1).mono ?_;intro e w2 hE;have HE:=Lib.hid hE;obtain rfl:=hE.ret;clear hE)
 go_wp2_with (fail)
 go_end0
 rw [hL.out]
 exact ⟨rfl,HE.out.obj,(((Tch.refl1 _ _).one 5 _).one 10 _).trans HE.out.tch⟩
theorem plain_8_1 (p : Nat) (v : Value) (s : WS) (w : World) (hp : w.heap[p]? = some (objW s v)) (ok : WOk s) (hfld : s.field = 8) :
  Calls Try.prog 156 #[.pointer (some ⟨p,0,none⟩), .int .i64 1] w (EndW w p (plainW s 1) v):=by
 have HP:=Lib.hid hp
 have hc1:=cW1 hp
 have hc5:=cW5 hp
 have hc10:=cW10 hp
 have hf5:=fW hp 5
 have hf10:=fW hp 10
 have hd0:=ok.d0
 have hd1:=ok.d1
 have HF:=Lib.hid hfld
 have OK:=Lib.hid ok
 have HD : Hid (0 ≤ Go.bits .or .i64 (s.dlc * 2) 1):=Lib.hid (by rw [show s.dlc * 2 = wrap64 (s.dlc * 2) by unfold wrap64;omega,or_i64 s.dlc 1 ok.d0 (by omega) (by omega)];omega)
 have hL : Hid (plainW s 1 = nextW { s with sum:=crcI s.sum 1,dlc:=Go.bits .or .i64 (s.dlc * 2) 1 }):=Lib.hid (by
  have e0 : sumW s 1 = { s with sum:=crcI s.sum 1 }:=by unfold sumW;rw [if_pos (by omega)]
  unfold plainW
  rw [e0]
  unfold takeW
  simp only [hfld]
  rw [show s.dlc * 2 = wrap64 (s.dlc * 2) by unfold wrap64;omega,or_i64 s.dlc 1 ok.d0 (by omega) (by omega)]
  rfl)
 rw [hfld] at hc1
 clear hp hfld ok
 go_enter Try.func156,Try.ntmps156
 go_wp2_with (first | (go_at_call 78;refine (impl_crcBit.same _ _ _).mono ?_;rintro e w' ⟨rfl,rfl⟩))
 (refine (impl_walk_next.calls p v ({ s with sum:=crcI s.sum 1,dlc:=Go.bits .or .i64 (s.dlc * 2) 1 }) _ (setW10 (setW5 HP.out _) _) HD.out OK.out.l0 OK.out.l1 OK.out.f0 OK.out.f1).mono ?_;intro e w2 hE;have HE:=Lib.hid hE;obtain rfl:=hE.ret;clear hE)
 go_wp2_with (fail)
 go_end0
 rw [hL.out]
 exact ⟨rfl,HE.out.obj,(((Tch.refl1 _ _).one 5 _).one 10 _).trans HE.out.tch⟩
theorem plain_10_0 (p : Nat) (v : Value) (s : WS) (w : World) (hp : w.heap[p]? = some (objW s v)) (ok : WOk s) (hfld : s.field = 10) :
  Calls Try.prog 156 #[.pointer (some ⟨p,0,none⟩), .int .i64 0] w (EndW w p (plainW s 0) v):=by
 have HP:=Lib.hid hp
 have hc1:=cW1 hp
 have hc6:=cW6 hp
 have hf6:=fW hp 6
 have hg0:=ok.g0
 have hg1:=ok.g1
 have HF:=Lib.hid hfld
 have OK:=Lib.hid ok
 have hL : Hid (plainW s 0 = nextW { s with got:=Go.bits .or .i64 (s.got * 2) 0 }):=Lib.hid (by
  have e0 : sumW s 0 = s:=by unfold sumW;rw [if_neg (by omega)]
  unfold plainW
  rw [e0]
  unfold takeW
  simp only [hfld]
  rw [show s.got * 2 = wrap64 (s.got * 2) by unfold wrap64;omega,or_i64 s.got 0 ok.g0 (by omega) (by omega)]
  rfl)
 rw [hfld] at hc1
 clear hp hfld ok
 go_enter Try.func156,Try.ntmps156
 go_wp2_with (fail)
 (refine (impl_walk_next.calls p v ({ s with got:=Go.bits .or .i64 (s.got * 2) 0 }) _ (setW6 HP.out _) OK.out.d0 OK.out.l0 OK.out.l1 OK.out.f0 OK.out.f1).mono ?_;intro e w2 hE;have HE:=Lib.hid hE;obtain rfl:=hE.ret;clear hE)
 go_wp2_with (fail)
 go_end0
 rw [hL.out]
 exact ⟨rfl,HE.out.obj,((Tch.refl1 _ _).one 6 _).trans HE.out.tch⟩
theorem plain_10_1 (p : Nat) (v : Value) (s : WS) (w : World) (hp : w.heap[p]? = some (objW s v)) (ok : WOk s) (hfld : s.field = 10) :
  Calls Try.prog 156 #[.pointer (some ⟨p,0,none⟩), .int .i64 1] w (EndW w p (plainW s 1) v):=by
 have HP:=Lib.hid hp
 have hc1:=cW1 hp
 have hc6:=cW6 hp
 have hf6:=fW hp 6
 have hg0:=ok.g0
 have hg1:=ok.g1
 have HF:=Lib.hid hfld
 have OK:=Lib.hid ok
 have hL : Hid (plainW s 1 = nextW { s with got:=Go.bits .or .i64 (s.got * 2) 1 }):=Lib.hid (by
  have e0 : sumW s 1 = s:=by unfold sumW;rw [if_neg (by omega)]
  unfold plainW
  rw [e0]
  unfold takeW
  simp only [hfld]
  rw [show s.got * 2 = wrap64 (s.got * 2) by unfold wrap64;omega,or_i64 s.got 1 ok.g0 (by omega) (by omega)]
  rfl)
 rw [hfld] at hc1
 clear hp hfld ok
 go_enter Try.func156,Try.ntmps156
 go_wp2_with (fail)
 (refine (impl_walk_next.calls p v ({ s with got:=Go.bits .or .i64 (s.got * 2) 1 }) _ (setW6 HP.out _) OK.out.d0 OK.out.l0 OK.out.l1 OK.out.f0 OK.out.f1).mono ?_;intro e w2 hE;have HE:=Lib.hid hE;obtain rfl:=hE.ret;clear hE)
 go_wp2_with (fail)
 go_end0
 rw [hL.out]
 exact ⟨rfl,HE.out.obj,((Tch.refl1 _ _).one 6 _).trans HE.out.tch⟩
theorem plain_11_0 (p : Nat) (v : Value) (s : WS) (w : World) (hp : w.heap[p]? = some (objW s v)) (ok : WOk s) (hfld : s.field = 11) :
  Calls Try.prog 156 #[.pointer (some ⟨p,0,none⟩), .int .i64 0] w (EndW w p (plainW s 0) v):=by
 have HP:=Lib.hid hp
 have hc1:=cW1 hp
 have hf0:=fW hp 0
 have hc0:=cW0 hp
 have HF:=Lib.hid hfld
 have OK:=Lib.hid ok
 have hL : Hid (plainW s 0 = nextW { s with code:=4 }):=Lib.hid (by
  have e0 : sumW s 0 = s:=by unfold sumW;rw [if_neg (by omega)]
  unfold plainW
  rw [e0]
  unfold takeW
  simp only [hfld]
  rfl)
 rw [hfld] at hc1
 clear hp hfld ok
 go_enter Try.func156,Try.ntmps156
 go_wp2_with (fail)
 (refine (impl_walk_next.calls p v ({ s with code:=4 }) _ (setW0 HP.out _) OK.out.d0 OK.out.l0 OK.out.l1 OK.out.f0 OK.out.f1).mono ?_;intro e w2 hE;have HE:=Lib.hid hE;obtain rfl:=hE.ret;clear hE)
 go_wp2_with (fail)
 go_end0
 rw [hL.out]
 exact ⟨rfl,HE.out.obj,((Tch.refl1 _ _).one 0 _).trans HE.out.tch⟩
theorem plain_11_1 (p : Nat) (v : Value) (s : WS) (w : World) (hp : w.heap[p]? = some (objW s v)) (ok : WOk s) (hfld : s.field = 11) :
  Calls Try.prog 156 #[.pointer (some ⟨p,0,none⟩), .int .i64 1] w (EndW w p (plainW s 1) v):=by
 have HP:=Lib.hid hp
 have hc1:=cW1 hp
 have HF:=Lib.hid hfld
 have OK:=Lib.hid ok
 have hL : Hid (plainW s 1 = nextW s):=Lib.hid (by
  have e0 : sumW s 1 = s:=by unfold sumW;rw [if_neg (by omega)]
  unfold plainW
  rw [e0]
  unfold takeW
  simp only [hfld]
  rfl)
 rw [hfld] at hc1
 clear hp hfld ok
 go_enter Try.func156,Try.ntmps156
 go_wp2_with (fail)
 (refine (impl_walk_next.calls p v (s) _ HP.out OK.out.d0 OK.out.l0 OK.out.l1 OK.out.f0 OK.out.f1).mono ?_;intro e w2 hE;have HE:=Lib.hid hE;obtain rfl:=hE.ret;clear hE)
 go_wp2_with (fail)
 go_end0
 rw [hL.out]
 exact ⟨rfl,HE.out.obj,(Tch.refl1 _ _).trans HE.out.tch⟩
theorem plain_12_0 (p : Nat) (v : Value) (s : WS) (w : World) (hp : w.heap[p]? = some (objW s v)) (ok : WOk s) (hfld : s.field = 12) :
  Calls Try.prog 156 #[.pointer (some ⟨p,0,none⟩), .int .i64 0] w (EndW w p (plainW s 0) v):=by
 have HP:=Lib.hid hp
 have hc1:=cW1 hp
 have HF:=Lib.hid hfld
 have OK:=Lib.hid ok
 have hL : Hid (plainW s 0 = nextW s):=Lib.hid (by
  have e0 : sumW s 0 = s:=by unfold sumW;rw [if_neg (by omega)]
  unfold plainW
  rw [e0]
  unfold takeW
  simp only [hfld]
  rfl)
 rw [hfld] at hc1
 clear hp hfld ok
 go_enter Try.func156,Try.ntmps156
 go_wp2_with (fail)
 (refine (impl_walk_next.calls p v (s) _ HP.out OK.out.d0 OK.out.l0 OK.out.l1 OK.out.f0 OK.out.f1).mono ?_;intro e w2 hE;have HE:=Lib.hid hE;obtain rfl:=hE.ret;clear hE)
 go_wp2_with (fail)
 go_end0
 rw [hL.out]
 exact ⟨rfl,HE.out.obj,(Tch.refl1 _ _).trans HE.out.tch⟩
theorem plain_12_1 (p : Nat) (v : Value) (s : WS) (w : World) (hp : w.heap[p]? = some (objW s v)) (ok : WOk s) (hfld : s.field = 12) :
  Calls Try.prog 156 #[.pointer (some ⟨p,0,none⟩), .int .i64 1] w (EndW w p (plainW s 1) v):=by
 have HP:=Lib.hid hp
 have hc1:=cW1 hp
 have HF:=Lib.hid hfld
 have OK:=Lib.hid ok
 have hL : Hid (plainW s 1 = nextW s):=Lib.hid (by
  have e0 : sumW s 1 = s:=by unfold sumW;rw [if_neg (by omega)]
  unfold plainW
  rw [e0]
  unfold takeW
  simp only [hfld]
  rfl)
 rw [hfld] at hc1
 clear hp hfld ok
 go_enter Try.func156,Try.ntmps156
 go_wp2_with (fail)
 (refine (impl_walk_next.calls p v (s) _ HP.out OK.out.d0 OK.out.l0 OK.out.l1 OK.out.f0 OK.out.f1).mono ?_;intro e w2 hE;have HE:=Lib.hid hE;obtain rfl:=hE.ret;clear hE)
 go_wp2_with (fail)
 go_end0
 rw [hL.out]
 exact ⟨rfl,HE.out.obj,(Tch.refl1 _ _).trans HE.out.tch⟩
theorem plain_13_0 (p : Nat) (v : Value) (s : WS) (w : World) (hp : w.heap[p]? = some (objW s v)) (ok : WOk s) (hfld : s.field = 13) :
  Calls Try.prog 156 #[.pointer (some ⟨p,0,none⟩), .int .i64 0] w (EndW w p (plainW s 0) v):=by
 have HP:=Lib.hid hp
 have hc1:=cW1 hp
 have hf0:=fW hp 0
 have hc0:=cW0 hp
 have HF:=Lib.hid hfld
 have OK:=Lib.hid ok
 have hL : Hid (plainW s 0 = nextW { s with code:=4 }):=Lib.hid (by
  have e0 : sumW s 0 = s:=by unfold sumW;rw [if_neg (by omega)]
  unfold plainW
  rw [e0]
  unfold takeW
  simp only [hfld]
  rfl)
 rw [hfld] at hc1
 clear hp hfld ok
 go_enter Try.func156,Try.ntmps156
 go_wp2_with (fail)
 (refine (impl_walk_next.calls p v ({ s with code:=4 }) _ (setW0 HP.out _) OK.out.d0 OK.out.l0 OK.out.l1 OK.out.f0 OK.out.f1).mono ?_;intro e w2 hE;have HE:=Lib.hid hE;obtain rfl:=hE.ret;clear hE)
 go_wp2_with (fail)
 go_end0
 rw [hL.out]
 exact ⟨rfl,HE.out.obj,((Tch.refl1 _ _).one 0 _).trans HE.out.tch⟩
theorem plain_13_1_ok (p : Nat) (v : Value) (s : WS) (w : World) (hp : w.heap[p]? = some (objW s v)) (ok : WOk s) (hfld : s.field = 13) (hk : crcOkW s = true) :
  Calls Try.prog 156 #[.pointer (some ⟨p,0,none⟩), .int .i64 1] w (EndW w p (plainW s 1) v):=by
 have HP:=Lib.hid hp
 have hc1:=cW1 hp
 have HF:=Lib.hid hfld
 have OK:=Lib.hid ok
 have hL : Hid (plainW s 1 = nextW s):=Lib.hid (by
  have e0 : sumW s 1 = s:=by unfold sumW;rw [if_neg (by omega)]
  unfold plainW
  rw [e0]
  unfold takeW
  simp only [hfld]
  rw [hk]
  rfl)
 rw [hfld] at hc1
 have HKK:=Lib.hid hk
 clear hk
 clear hp hfld ok
 go_enter Try.func156,Try.ntmps156
 go_wp2_with (fail)
 (refine (crcOk_is p v s _ HP.out _ HKK.out).mono ?_;intro e w1 hE1;have HE1:=Lib.hid hE1;obtain rfl:=hE1.ret;clear hE1)
 go_wp2_with (fail)
 (refine (impl_walk_next.calls p v (s) _ HE1.out.obj OK.out.d0 OK.out.l0 OK.out.l1 OK.out.f0 OK.out.f1).mono ?_;intro e w2 hE;have HE:=Lib.hid hE;obtain rfl:=hE.ret;clear hE)
 go_wp2_with (fail)
 go_end0
 rw [hL.out]
 exact ⟨rfl,HE.out.obj,HE1.out.tch.trans HE.out.tch⟩
theorem plain_13_1_bad (p : Nat) (v : Value) (s : WS) (w : World) (hp : w.heap[p]? = some (objW s v)) (ok : WOk s) (hfld : s.field = 13) (hk : crcOkW s = false) :
  Calls Try.prog 156 #[.pointer (some ⟨p,0,none⟩), .int .i64 1] w (EndW w p (plainW s 1) v):=by
 have HP:=Lib.hid hp
 have hc1:=cW1 hp
 have hf0:=fW hp 0
 have hc0:=cW0 hp
 have HF:=Lib.hid hfld
 have OK:=Lib.hid ok
 have hL : Hid (plainW s 1 = nextW { s with code:=5 }):=Lib.hid (by
  have e0 : sumW s 1 = s:=by unfold sumW;rw [if_neg (by omega)]
  unfold plainW
  rw [e0]
  unfold takeW
  simp only [hfld]
  rw [hk]
  rfl)
 rw [hfld] at hc1
 have HKK:=Lib.hid hk
 clear hk
 clear hp hfld ok
 go_enter Try.func156,Try.ntmps156
 go_wp2_with (fail)
 (refine (crcOk_is p v s _ HP.out _ HKK.out).mono ?_;intro e w1 hE1;have HE1:=Lib.hid hE1;obtain rfl:=hE1.ret;clear hE1)
 have hc0b:=cW0 HE1.out.obj
 have hf0b:=fW HE1.out.obj 0
 go_wp2_with (fail)
 (refine (impl_walk_next.calls p v ({ s with code:=5 }) _ (setW0 HE1.out.obj _) OK.out.d0 OK.out.l0 OK.out.l1 OK.out.f0 OK.out.f1).mono ?_;intro e w2 hE;have HE:=Lib.hid hE;obtain rfl:=hE.ret;clear hE)
 go_wp2_with (fail)
 go_end0
 rw [hL.out]
 exact ⟨rfl,HE.out.obj,(HE1.out.tch.one 0 _).trans HE.out.tch⟩
theorem plain_14_0 (p : Nat) (v : Value) (s : WS) (w : World) (hp : w.heap[p]? = some (objW s v)) (ok : WOk s) (hfld : s.field = 14) :
  Calls Try.prog 156 #[.pointer (some ⟨p,0,none⟩), .int .i64 0] w (EndW w p (plainW s 0) v):=by
 have HP:=Lib.hid hp
 have hc1:=cW1 hp
 have HF:=Lib.hid hfld
 have OK:=Lib.hid ok
 have hL : Hid (plainW s 0 = nextW (endW s 0)):=Lib.hid (by
  have e0 : sumW s 0 = s:=by unfold sumW;rw [if_neg (by omega)]
  unfold plainW
  rw [e0]
  unfold takeW
  simp only [hfld]
  rfl)
 rw [hfld] at hc1
 clear hp hfld ok
 go_enter Try.func156,Try.ntmps156
 go_wp2_with (fail)
 (refine (impl_walk_end.calls p v s 0 (by omega) _ HP.out).mono ?_;intro e w1 hE1;have HE1:=Lib.hid hE1;obtain rfl:=hE1.ret;clear hE1)
 go_wp2_with (fail)
 (refine (impl_walk_next.calls p v (endW s 0) _ HE1.out.obj (by rw [endW_dlc];exact OK.out.d0) (by rw [endW_left];exact OK.out.l0) (by rw [endW_left];exact OK.out.l1) (by rw [endW_field];exact OK.out.f0) (by rw [endW_field];exact OK.out.f1)).mono ?_;intro e w2 hE;have HE:=Lib.hid hE;obtain rfl:=hE.ret;clear hE)
 go_wp2_with (fail)
 go_end0
 rw [hL.out]
 exact ⟨rfl,HE.out.obj,HE1.out.tch.trans HE.out.tch⟩
theorem plain_14_1 (p : Nat) (v : Value) (s : WS) (w : World) (hp : w.heap[p]? = some (objW s v)) (ok : WOk s) (hfld : s.field = 14) :
  Calls Try.prog 156 #[.pointer (some ⟨p,0,none⟩), .int .i64 1] w (EndW w p (plainW s 1) v):=by
 have HP:=Lib.hid hp
 have hc1:=cW1 hp
 have HF:=Lib.hid hfld
 have OK:=Lib.hid ok
 have hL : Hid (plainW s 1 = nextW (endW s 1)):=Lib.hid (by
  have e0 : sumW s 1 = s:=by unfold sumW;rw [if_neg (by omega)]
  unfold plainW
  rw [e0]
  unfold takeW
  simp only [hfld]
  rfl)
 rw [hfld] at hc1
 clear hp hfld ok
 go_enter Try.func156,Try.ntmps156
 go_wp2_with (fail)
 (refine (impl_walk_end.calls p v s 1 (by omega) _ HP.out).mono ?_;intro e w1 hE1;have HE1:=Lib.hid hE1;obtain rfl:=hE1.ret;clear hE1)
 go_wp2_with (fail)
 (refine (impl_walk_next.calls p v (endW s 1) _ HE1.out.obj (by rw [endW_dlc];exact OK.out.d0) (by rw [endW_left];exact OK.out.l0) (by rw [endW_left];exact OK.out.l1) (by rw [endW_field];exact OK.out.f0) (by rw [endW_field];exact OK.out.f1)).mono ?_;intro e w2 hE;have HE:=Lib.hid hE;obtain rfl:=hE.ret;clear hE)
 go_wp2_with (fail)
 go_end0
 rw [hL.out]
 exact ⟨rfl,HE.out.obj,HE1.out.tch.trans HE.out.tch⟩
theorem plain_lit (p : Nat) (v : Value) (s : WS) (b : Int) (hb : b = 0 ∨ b = 1) (w : World) (hp : w.heap[p]? = some (objW s v)) (ok : WOk s) (h9 : s.field ≠ 9) :
  Calls Try.prog 156 #[.pointer (some ⟨p,0,none⟩), .int .i64 b] w (EndW w p (plainW s b) v):=by
 have f0:=ok.f0
 have f1:=ok.f1
 by_cases c1 : s.field = 1
 ·rcases hb with rfl | rfl
  ·exact plain_1_0 p v s w hp ok c1
  ·exact plain_1_1 p v s w hp ok c1
 by_cases c2 : s.field = 2
 ·rcases hb with rfl | rfl
  ·exact plain_2_0 p v s w hp ok c2
  ·exact plain_2_1 p v s w hp ok c2
 by_cases c3 : s.field = 3
 ·rcases hb with rfl | rfl
  ·exact plain_3_0 p v s w hp ok c3
  ·exact plain_3_1 p v s w hp ok c3
 by_cases c4 : s.field = 4
 ·rcases hb with rfl | rfl
  ·exact plain_4_0 p v s w hp ok c4
  ·exact plain_4_1 p v s w hp ok c4
 by_cases c5 : s.field = 5
 ·rcases hb with rfl | rfl
  ·exact plain_5_0 p v s w hp ok c5
  ·exact plain_5_1 p v s w hp ok c5
 by_cases c6 : s.field = 6
 ·rcases hb with rfl | rfl
  ·exact plain_6_0 p v s w hp ok c6
  ·exact plain_6_1 p v s w hp ok c6
 by_cases c7 : s.field = 7
 ·rcases hb with rfl | rfl
  ·exact plain_7_0 p v s w hp ok c7
  ·exact plain_7_1 p v s w hp ok c7
 by_cases c8 : s.field = 8
 ·rcases hb with rfl | rfl
  ·exact plain_8_0 p v s w hp ok c8
  ·exact plain_8_1 p v s w hp ok c8
 by_cases c10 : s.field = 10
 ·rcases hb with rfl | rfl
  ·exact plain_10_0 p v s w hp ok c10
  ·exact plain_10_1 p v s w hp ok c10
 by_cases c11 : s.field = 11
 ·rcases hb with rfl | rfl
  ·exact plain_11_0 p v s w hp ok c11
  ·exact plain_11_1 p v s w hp ok c11
 by_cases c12 : s.field = 12
 ·rcases hb with rfl | rfl
  ·exact plain_12_0 p v s w hp ok c12
  ·exact plain_12_1 p v s w hp ok c12
 by_cases c13 : s.field = 13
 ·rcases hb with rfl | rfl
  ·exact plain_13_0 p v s w hp ok c13
  ·by_cases hk : crcOkW s = true
   ·exact plain_13_1_ok p v s w hp ok c13 hk
   ·exact plain_13_1_bad p v s w hp ok c13 (Bool.eq_false_iff.mpr hk)
 by_cases c14 : s.field = 14
 ·rcases hb with rfl | rfl
  ·exact plain_14_0 p v s w hp ok c14
  ·exact plain_14_1 p v s w hp ok c14
 omega
theorem impl_walk_plain.calls (p : Nat) (v : Value) (s : WS) (b : Int) (hb : b = 0 ∨ b = 1) (S : Nat → Prop) (w0 w : World) (hi : WIn w0 w p S s v) (hpl : w0.heap.size ≤ p) (hS : ¬ S p) (ok : WOk s) :
  Calls Try.prog 156 #[.pointer (some ⟨p,0,none⟩), .int .i64 b] w (EndP w0 w p S (plainW s b)):=by
 by_cases h9 : s.field = 9
 ·by_cases h8 : s.left % 8 = 0
  ·rcases hb with rfl | rfl
   ·exact plain_9_0_app p v s S w0 w hi.obj hi.row hi.below hpl hS hi.fresh ok h9 h8
   ·exact plain_9_1_app p v s S w0 w hi.obj hi.row hi.below hpl hS hi.fresh ok h9 h8
  ·rcases hb with rfl | rfl
   ·exact plain_9_0_in p v s S w0 w hi.obj hi.row hi.below hpl hS hi.fresh ok h9 h8
   ·exact plain_9_1_in p v s S w0 w hi.obj hi.row hi.below hpl hS hi.fresh ok h9 h8
 ·refine (plain_lit p v s b hb w hi.obj ok h9).mono ?_
  intro e w' h
  exact h.toP (by rw [plainW_data s b h9];exact hi.row) hS
end Go.Proofs.Ytdoclpgciadjaaa.P

namespace Go.Proofs.Ytdoclpgciadjaaa.P
open Go.RowKit Go.Proofs.YtdoclpgciadjaaaW.PrintWords Go.Proofs.YtdoclpgciadjaaaW.PrintLast Go.Proofs.YtdoclpgciadjaaaW.PrintMore
set_option linter.unusedVariables false
set_option linter.unusedSimpArgs false
theorem due_is (p : Nat) (v : Value) (s : WS) (w : World) (hp : w.heap[p]? = some (objW s v)) (k : Bool) (hk : dueW s = k) :
  Calls Try.prog 82 #[.pointer (some ⟨p,0,none⟩)] w fun e w' => e = .returned (.bool k) ∧ w = w':=by
 subst hk
 exact impl_walk_due.calls p v s w hp
theorem hear_48_stop (p : Nat) (v : Value) (s : WS) (S : Nat → Prop) (w0 w : World) (hi : WIn w0 w p S s v) (hpl : w0.heap.size ≤ p) (hS : ¬ S p) (ok : WOk s) (hd : dueW s = true) (hl : s.level = 48) :
  Calls Try.prog 134 #[.pointer (some ⟨p,0,none⟩), .int .i32 48] w (EndP w0 w p S (hearW s 48)):=by
 have HI:=Lib.hid hi
 have OK:=Lib.hid ok
 have hp:=hi.obj
 have hc0:=cW0 hp
 have hc1:=cW1 hp
 have hc3:=cW3 hp
 have hc4:=cW4 hp
 have hf0:=fW hp 0
 have hf3:=fW hp 3
 have hf4:=fW hp 4
 have r0:=ok.r0
 have r1:=ok.r1
 have HI1:=Lib.hid (hi.put hS hpl (setW0 hp 0) rfl)
 have HD : Hid (dueW { s with code:=0 } = true):=Lib.hid hd
 have HL : Hid (hearW s 48 = { s with code:=3,run:=1,level:=48 }):=Lib.hid (by unfold hearW;simp only [];rw [if_pos (show dueW { s with code:=0 } = true from hd),if_pos hl.symm])
 rw [hl] at hc4
 clear hi ok hp hd hl
 go_enter Try.func134,Try.ntmps134
 go_wp2_with (fail)
 (refine (due_is p v _ _ HI1.out.obj _ HD.out).mono ?_;rintro e w' ⟨rfl,rfl⟩)
 go_wp2_with (fail)
 go_end0
 rw [HL.out]
 have HI2:=(HI1.out.put hS hpl (setW0 HI1.out.obj 3) rfl)
 have HI3:=(HI2.put hS hpl (setW3 HI2.obj 1) rfl)
 have HI4:=(HI3.put hS hpl (setW4 HI3.obj 48) rfl)
 exact ⟨rfl,⟨v,HI4.obj,HI4.row⟩,(((((Tch.refl1 _ _).one 0 _).one 0 _).one 3 _).one 4 _).mono fun k hk => .inl hk⟩
theorem hear_48_skip (p : Nat) (v : Value) (s : WS) (S : Nat → Prop) (w0 w : World) (hi : WIn w0 w p S s v) (hpl : w0.heap.size ≤ p) (hS : ¬ S p) (ok : WOk s) (hd : dueW s = true) (hl : ¬ s.level = 48) :
  Calls Try.prog 134 #[.pointer (some ⟨p,0,none⟩), .int .i32 48] w (EndP w0 w p S (hearW s 48)):=by
 have HI:=Lib.hid hi
 have OK:=Lib.hid ok
 have hp:=hi.obj
 have hc0:=cW0 hp
 have hc1:=cW1 hp
 have hc3:=cW3 hp
 have hc4:=cW4 hp
 have hf0:=fW hp 0
 have hf3:=fW hp 3
 have hf4:=fW hp 4
 have r0:=ok.r0
 have r1:=ok.r1
 have HI1:=Lib.hid (hi.put hS hpl (setW0 hp 0) rfl)
 have HD : Hid (dueW { s with code:=0 } = true):=Lib.hid hd
 have HL : Hid (hearW s 48 = { s with code:=0,run:=1,level:=48 }):=Lib.hid (by unfold hearW;simp only [];rw [if_pos (show dueW { s with code:=0 } = true from hd),if_neg (fun h => hl h.symm)])
 have bl : (s.level == 48) = false:=by simp [hl]
 have bl2 : ((48 : Int) == s.level) = false:=by simp;omega
 clear hi ok hp hd hl
 go_enter Try.func134,Try.ntmps134
 go_wp2_with (fail)
 (refine (due_is p v _ _ HI1.out.obj _ HD.out).mono ?_;rintro e w' ⟨rfl,rfl⟩)
 go_wp2_with (fail)
 go_end0
 rw [HL.out]
 have HI3:=(HI1.out.put hS hpl (setW3 HI1.out.obj 1) rfl)
 have HI4:=(HI3.put hS hpl (setW4 HI3.obj 48) rfl)
 exact ⟨rfl,⟨v,HI4.obj,HI4.row⟩,((((Tch.refl1 _ _).one 0 _).one 3 _).one 4 _).mono fun k hk => .inl hk⟩
theorem hear_48_more (p : Nat) (v : Value) (s : WS) (S : Nat → Prop) (w0 w : World) (hi : WIn w0 w p S s v) (hpl : w0.heap.size ≤ p) (hS : ¬ S p) (ok : WOk s) (hd : dueW s = false) (hf : s.field ≤ 10) (hr : 0 < s.run) (hl : s.level = 48) :
  Calls Try.prog 134 #[.pointer (some ⟨p,0,none⟩), .int .i32 48] w (EndP w0 w p S (hearW s 48)):=by
 have HI:=Lib.hid hi
 have OK:=Lib.hid ok
 have hp:=hi.obj
 have hc0:=cW0 hp
 have hc1:=cW1 hp
 have hc3:=cW3 hp
 have hc4:=cW4 hp
 have hf0:=fW hp 0
 have hf3:=fW hp 3
 have hf4:=fW hp 4
 have r0:=ok.r0
 have r1:=ok.r1
 have HI1:=Lib.hid (hi.put hS hpl (setW0 hp 0) rfl)
 have HD : Hid (dueW { s with code:=0 } = false):=Lib.hid hd
 have HL : Hid (hearW s 48 = plainW { s with code:=0,run:=s.run + 1 } 0):=Lib.hid (by unfold hearW;simp only [];rw [if_neg (by rw [show dueW { s with code:=0 } = false from hd];decide),if_pos hf,if_pos ⟨hr,hl⟩];rfl)
 have HR : Hid (s.field ≤ 10 → s.run ≤ 4):=Lib.hid (fun hf2 => run_le4 hd hf2 r1)
 rw [hl] at hc4
 have bf : decide (s.field ≤ 10) = true:=decide_eq_true hf
 have br : decide (0 < s.run) = true:=decide_eq_true hr
 have HFF:=Lib.hid hf
 clear hi ok hp hd hl hf hr
 go_enter Try.func134,Try.ntmps134
 go_wp2_with (fail)
 (refine (due_is p v _ _ HI1.out.obj _ HD.out).mono ?_;rintro e w' ⟨rfl,rfl⟩)
 go_wp2_with (fail)
 have HI3:=Lib.hid (HI1.out.put hS hpl (setW3 HI1.out.obj (s.run + 1)) rfl)
 (refine (impl_walk_plain.calls p v _ 0 (by omega) S w0 _ HI3.out hpl hS ⟨OK.out.f0,OK.out.f1,OK.out.l0,OK.out.l1,by simp only [];omega,by have:=HR.out HFF.out;simp only [];omega,OK.out.d0,OK.out.d1,OK.out.g0,OK.out.g1,OK.out.i0,OK.out.i1,OK.out.ne,OK.out.by_,OK.out.dl⟩).mono ?_;intro e w2 hE;have HE:=Lib.hid hE;obtain rfl:=hE.ret;clear hE)
 go_wp2_with (fail)
 go_end0
 rw [HL.out]
 exact ⟨rfl,HE.out.at_,((((Tch.refl1 _ _).one 0 _).one 3 _).mono fun k hk => .inl hk).trans HE.out.tch⟩
theorem hear_48_first (p : Nat) (v : Value) (s : WS) (S : Nat → Prop) (w0 w : World) (hi : WIn w0 w p S s v) (hpl : w0.heap.size ≤ p) (hS : ¬ S p) (ok : WOk s) (hd : dueW s = false) (hf : s.field ≤ 10) (hr : ¬ 0 < s.run) :
  Calls Try.prog 134 #[.pointer (some ⟨p,0,none⟩), .int .i32 48] w (EndP w0 w p S (hearW s 48)):=by
 have HI:=Lib.hid hi
 have OK:=Lib.hid ok
 have hp:=hi.obj
 have hc0:=cW0 hp
 have hc1:=cW1 hp
 have hc3:=cW3 hp
 have hc4:=cW4 hp
 have hf0:=fW hp 0
 have hf3:=fW hp 3
 have hf4:=fW hp 4
 have r0:=ok.r0
 have r1:=ok.r1
 have HI1:=Lib.hid (hi.put hS hpl (setW0 hp 0) rfl)
 have HD : Hid (dueW { s with code:=0 } = false):=Lib.hid hd
 have HL : Hid (hearW s 48 = plainW { s with code:=0,run:=1,level:=48 } 0):=Lib.hid (by unfold hearW;simp only [];rw [if_neg (by rw [show dueW { s with code:=0 } = false from hd];decide),if_pos hf,if_neg (fun h => hr h.1)];rfl)
 have HR : Hid (s.field ≤ 10 → s.run ≤ 4):=Lib.hid (fun hf2 => run_le4 hd hf2 r1)
 have bf : decide (s.field ≤ 10) = true:=decide_eq_true hf
 have br : decide (0 < s.run) = false:=decide_eq_false hr
 have HFF:=Lib.hid hf
 clear hi ok hp hd hf hr
 go_enter Try.func134,Try.ntmps134
 go_wp2_with (fail)
 (refine (due_is p v _ _ HI1.out.obj _ HD.out).mono ?_;rintro e w' ⟨rfl,rfl⟩)
 go_wp2_with (fail)
 have HI3:=(HI1.out.put hS hpl (setW3 HI1.out.obj 1) rfl)
 have HI4:=Lib.hid (HI3.put hS hpl (setW4 HI3.obj 48) rfl)
 clear HI3
 (refine (impl_walk_plain.calls p v _ 0 (by omega) S w0 _ HI4.out hpl hS ⟨OK.out.f0,OK.out.f1,OK.out.l0,OK.out.l1,by simp only [];omega,by simp only [];omega,OK.out.d0,OK.out.d1,OK.out.g0,OK.out.g1,OK.out.i0,OK.out.i1,OK.out.ne,OK.out.by_,OK.out.dl⟩).mono ?_;intro e w2 hE;have HE:=Lib.hid hE;obtain rfl:=hE.ret;clear hE)
 go_wp2_with (fail)
 go_end0
 rw [HL.out]
 exact ⟨rfl,HE.out.at_,(((((Tch.refl1 _ _).one 0 _).one 3 _).one 4 _).mono fun k hk => .inl hk).trans HE.out.tch⟩
theorem hear_48_turn (p : Nat) (v : Value) (s : WS) (S : Nat → Prop) (w0 w : World) (hi : WIn w0 w p S s v) (hpl : w0.heap.size ≤ p) (hS : ¬ S p) (ok : WOk s) (hd : dueW s = false) (hf : s.field ≤ 10) (hr : 0 < s.run) (hl : ¬ s.level = 48) :
  Calls Try.prog 134 #[.pointer (some ⟨p,0,none⟩), .int .i32 48] w (EndP w0 w p S (hearW s 48)):=by
 have HI:=Lib.hid hi
 have OK:=Lib.hid ok
 have hp:=hi.obj
 have hc0:=cW0 hp
 have hc1:=cW1 hp
 have hc3:=cW3 hp
 have hc4:=cW4 hp
 have hf0:=fW hp 0
 have hf3:=fW hp 3
 have hf4:=fW hp 4
 have r0:=ok.r0
 have r1:=ok.r1
 have HI1:=Lib.hid (hi.put hS hpl (setW0 hp 0) rfl)
 have HD : Hid (dueW { s with code:=0 } = false):=Lib.hid hd
 have HL : Hid (hearW s 48 = plainW { s with code:=0,run:=1,level:=48 } 0):=Lib.hid (by unfold hearW;simp only [];rw [if_neg (by rw [show dueW { s with code:=0 } = false from hd];decide),if_pos hf,if_neg (fun h => hl h.2)];rfl)
 have HR : Hid (s.field ≤ 10 → s.run ≤ 4):=Lib.hid (fun hf2 => run_le4 hd hf2 r1)
 have bl : (s.level == 48) = false:=by simp [hl]
 have bl2 : ((48 : Int) == s.level) = false:=by simp;omega
 have bf : decide (s.field ≤ 10) = true:=decide_eq_true hf
 have br : decide (0 < s.run) = true:=decide_eq_true hr
 have HFF:=Lib.hid hf
 clear hi ok hp hd hl hf hr
 go_enter Try.func134,Try.ntmps134
 go_wp2_with (fail)
 (refine (due_is p v _ _ HI1.out.obj _ HD.out).mono ?_;rintro e w' ⟨rfl,rfl⟩)
 go_wp2_with (fail)
 have HI3:=(HI1.out.put hS hpl (setW3 HI1.out.obj 1) rfl)
 have HI4:=Lib.hid (HI3.put hS hpl (setW4 HI3.obj 48) rfl)
 clear HI3
 (refine (impl_walk_plain.calls p v _ 0 (by omega) S w0 _ HI4.out hpl hS ⟨OK.out.f0,OK.out.f1,OK.out.l0,OK.out.l1,by simp only [];omega,by simp only [];omega,OK.out.d0,OK.out.d1,OK.out.g0,OK.out.g1,OK.out.i0,OK.out.i1,OK.out.ne,OK.out.by_,OK.out.dl⟩).mono ?_;intro e w2 hE;have HE:=Lib.hid hE;obtain rfl:=hE.ret;clear hE)
 go_wp2_with (fail)
 go_end0
 rw [HL.out]
 exact ⟨rfl,HE.out.at_,(((((Tch.refl1 _ _).one 0 _).one 3 _).one 4 _).mono fun k hk => .inl hk).trans HE.out.tch⟩
theorem hear_48_late (p : Nat) (v : Value) (s : WS) (S : Nat → Prop) (w0 w : World) (hi : WIn w0 w p S s v) (hpl : w0.heap.size ≤ p) (hS : ¬ S p) (ok : WOk s) (hd : dueW s = false) (hf : ¬ s.field ≤ 10) :
  Calls Try.prog 134 #[.pointer (some ⟨p,0,none⟩), .int .i32 48] w (EndP w0 w p S (hearW s 48)):=by
 have HI:=Lib.hid hi
 have OK:=Lib.hid ok
 have hp:=hi.obj
 have hc0:=cW0 hp
 have hc1:=cW1 hp
 have hc3:=cW3 hp
 have hc4:=cW4 hp
 have hf0:=fW hp 0
 have hf3:=fW hp 3
 have hf4:=fW hp 4
 have r0:=ok.r0
 have r1:=ok.r1
 have HI1:=Lib.hid (hi.put hS hpl (setW0 hp 0) rfl)
 have HD : Hid (dueW { s with code:=0 } = false):=Lib.hid hd
 have HL : Hid (hearW s 48 = plainW { s with code:=0,run:=0 } 0):=Lib.hid (by unfold hearW;simp only [];rw [if_neg (by rw [show dueW { s with code:=0 } = false from hd];decide),if_neg hf];rfl)
 have HR : Hid (s.field ≤ 10 → s.run ≤ 4):=Lib.hid (fun hf2 => run_le4 hd hf2 r1)
 have bf : decide (s.field ≤ 10) = false:=decide_eq_false hf
 have HFF:=Lib.hid hf
 clear hi ok hp hd hf
 go_enter Try.func134,Try.ntmps134
 go_wp2_with (fail)
 (refine (due_is p v _ _ HI1.out.obj _ HD.out).mono ?_;rintro e w' ⟨rfl,rfl⟩)
 go_wp2_with (fail)
 have HI3:=Lib.hid (HI1.out.put hS hpl (setW3 HI1.out.obj 0) rfl)
 (refine (impl_walk_plain.calls p v _ 0 (by omega) S w0 _ HI3.out hpl hS ⟨OK.out.f0,OK.out.f1,OK.out.l0,OK.out.l1,by simp only [];omega,by simp only [];omega,OK.out.d0,OK.out.d1,OK.out.g0,OK.out.g1,OK.out.i0,OK.out.i1,OK.out.ne,OK.out.by_,OK.out.dl⟩).mono ?_;intro e w2 hE;have HE:=Lib.hid hE;obtain rfl:=hE.ret;clear hE)
 go_wp2_with (fail)
 go_end0
 rw [HL.out]
 exact ⟨rfl,HE.out.at_,((((Tch.refl1 _ _).one 0 _).one 3 _).mono fun k hk => .inl hk).trans HE.out.tch⟩
theorem hear_49_stop (p : Nat) (v : Value) (s : WS) (S : Nat → Prop) (w0 w : World) (hi : WIn w0 w p S s v) (hpl : w0.heap.size ≤ p) (hS : ¬ S p) (ok : WOk s) (hd : dueW s = true) (hl : s.level = 49) :
  Calls Try.prog 134 #[.pointer (some ⟨p,0,none⟩), .int .i32 49] w (EndP w0 w p S (hearW s 49)):=by
 have HI:=Lib.hid hi
 have OK:=Lib.hid ok
 have hp:=hi.obj
 have hc0:=cW0 hp
 have hc1:=cW1 hp
 have hc3:=cW3 hp
 have hc4:=cW4 hp
 have hf0:=fW hp 0
 have hf3:=fW hp 3
 have hf4:=fW hp 4
 have r0:=ok.r0
 have r1:=ok.r1
 have HI1:=Lib.hid (hi.put hS hpl (setW0 hp 0) rfl)
 have HD : Hid (dueW { s with code:=0 } = true):=Lib.hid hd
 have HL : Hid (hearW s 49 = { s with code:=3,run:=1,level:=49 }):=Lib.hid (by unfold hearW;simp only [];rw [if_pos (show dueW { s with code:=0 } = true from hd),if_pos hl.symm])
 rw [hl] at hc4
 clear hi ok hp hd hl
 go_enter Try.func134,Try.ntmps134
 go_wp2_with (fail)
 (refine (due_is p v _ _ HI1.out.obj _ HD.out).mono ?_;rintro e w' ⟨rfl,rfl⟩)
 go_wp2_with (fail)
 go_end0
 rw [HL.out]
 have HI2:=(HI1.out.put hS hpl (setW0 HI1.out.obj 3) rfl)
 have HI3:=(HI2.put hS hpl (setW3 HI2.obj 1) rfl)
 have HI4:=(HI3.put hS hpl (setW4 HI3.obj 49) rfl)
 exact ⟨rfl,⟨v,HI4.obj,HI4.row⟩,(((((Tch.refl1 _ _).one 0 _).one 0 _).one 3 _).one 4 _).mono fun k hk => .inl hk⟩
theorem hear_49_skip (p : Nat) (v : Value) (s : WS) (S : Nat → Prop) (w0 w : World) (hi : WIn w0 w p S s v) (hpl : w0.heap.size ≤ p) (hS : ¬ S p) (ok : WOk s) (hd : dueW s = true) (hl : ¬ s.level = 49) :
  Calls Try.prog 134 #[.pointer (some ⟨p,0,none⟩), .int .i32 49] w (EndP w0 w p S (hearW s 49)):=by
 have HI:=Lib.hid hi
 have OK:=Lib.hid ok
 have hp:=hi.obj
 have hc0:=cW0 hp
 have hc1:=cW1 hp
 have hc3:=cW3 hp
 have hc4:=cW4 hp
 have hf0:=fW hp 0
 have hf3:=fW hp 3
 have hf4:=fW hp 4
 have r0:=ok.r0
 have r1:=ok.r1
 have HI1:=Lib.hid (hi.put hS hpl (setW0 hp 0) rfl)
 have HD : Hid (dueW { s with code:=0 } = true):=Lib.hid hd
 have HL : Hid (hearW s 49 = { s with code:=0,run:=1,level:=49 }):=Lib.hid (by unfold hearW;simp only [];rw [if_pos (show dueW { s with code:=0 } = true from hd),if_neg (fun h => hl h.symm)])
 have bl : (s.level == 49) = false:=by simp [hl]
 have bl2 : ((49 : Int) == s.level) = false:=by simp;omega
 clear hi ok hp hd hl
 go_enter Try.func134,Try.ntmps134
 go_wp2_with (fail)
 (refine (due_is p v _ _ HI1.out.obj _ HD.out).mono ?_;rintro e w' ⟨rfl,rfl⟩)
 go_wp2_with (fail)
 go_end0
 rw [HL.out]
 have HI3:=(HI1.out.put hS hpl (setW3 HI1.out.obj 1) rfl)
 have HI4:=(HI3.put hS hpl (setW4 HI3.obj 49) rfl)
 exact ⟨rfl,⟨v,HI4.obj,HI4.row⟩,((((Tch.refl1 _ _).one 0 _).one 3 _).one 4 _).mono fun k hk => .inl hk⟩
theorem hear_49_more (p : Nat) (v : Value) (s : WS) (S : Nat → Prop) (w0 w : World) (hi : WIn w0 w p S s v) (hpl : w0.heap.size ≤ p) (hS : ¬ S p) (ok : WOk s) (hd : dueW s = false) (hf : s.field ≤ 10) (hr : 0 < s.run) (hl : s.level = 49) :
  Calls Try.prog 134 #[.pointer (some ⟨p,0,none⟩), .int .i32 49] w (EndP w0 w p S (hearW s 49)):=by
 have HI:=Lib.hid hi
 have OK:=Lib.hid ok
 have hp:=hi.obj
 have hc0:=cW0 hp
 have hc1:=cW1 hp
 have hc3:=cW3 hp
 have hc4:=cW4 hp
 have hf0:=fW hp 0
 have hf3:=fW hp 3
 have hf4:=fW hp 4
 have r0:=ok.r0
 have r1:=ok.r1
 have HI1:=Lib.hid (hi.put hS hpl (setW0 hp 0) rfl)
 have HD : Hid (dueW { s with code:=0 } = false):=Lib.hid hd
 have HL : Hid (hearW s 49 = plainW { s with code:=0,run:=s.run + 1 } 1):=Lib.hid (by unfold hearW;simp only [];rw [if_neg (by rw [show dueW { s with code:=0 } = false from hd];decide),if_pos hf,if_pos ⟨hr,hl⟩];rfl)
 have HR : Hid (s.field ≤ 10 → s.run ≤ 4):=Lib.hid (fun hf2 => run_le4 hd hf2 r1)
 rw [hl] at hc4
 have bf : decide (s.field ≤ 10) = true:=decide_eq_true hf
 have br : decide (0 < s.run) = true:=decide_eq_true hr
 have HFF:=Lib.hid hf
 clear hi ok hp hd hl hf hr
 go_enter Try.func134,Try.ntmps134
 go_wp2_with (fail)
 (refine (due_is p v _ _ HI1.out.obj _ HD.out).mono ?_;rintro e w' ⟨rfl,rfl⟩)
 go_wp2_with (fail)
 have HI3:=Lib.hid (HI1.out.put hS hpl (setW3 HI1.out.obj (s.run + 1)) rfl)
 (refine (impl_walk_plain.calls p v _ 1 (by omega) S w0 _ HI3.out hpl hS ⟨OK.out.f0,OK.out.f1,OK.out.l0,OK.out.l1,by simp only [];omega,by have:=HR.out HFF.out;simp only [];omega,OK.out.d0,OK.out.d1,OK.out.g0,OK.out.g1,OK.out.i0,OK.out.i1,OK.out.ne,OK.out.by_,OK.out.dl⟩).mono ?_;intro e w2 hE;have HE:=Lib.hid hE;obtain rfl:=hE.ret;clear hE)
 go_wp2_with (fail)
 go_end0
 rw [HL.out]
 exact ⟨rfl,HE.out.at_,((((Tch.refl1 _ _).one 0 _).one 3 _).mono fun k hk => .inl hk).trans HE.out.tch⟩
theorem hear_49_first (p : Nat) (v : Value) (s : WS) (S : Nat → Prop) (w0 w : World) (hi : WIn w0 w p S s v) (hpl : w0.heap.size ≤ p) (hS : ¬ S p) (ok : WOk s) (hd : dueW s = false) (hf : s.field ≤ 10) (hr : ¬ 0 < s.run) :
  Calls Try.prog 134 #[.pointer (some ⟨p,0,none⟩), .int .i32 49] w (EndP w0 w p S (hearW s 49)):=by
 have HI:=Lib.hid hi
 have OK:=Lib.hid ok
 have hp:=hi.obj
 have hc0:=cW0 hp
 have hc1:=cW1 hp
 have hc3:=cW3 hp
 have hc4:=cW4 hp
 have hf0:=fW hp 0
 have hf3:=fW hp 3
 have hf4:=fW hp 4
 have r0:=ok.r0
 have r1:=ok.r1
 have HI1:=Lib.hid (hi.put hS hpl (setW0 hp 0) rfl)
 have HD : Hid (dueW { s with code:=0 } = false):=Lib.hid hd
 have HL : Hid (hearW s 49 = plainW { s with code:=0,run:=1,level:=49 } 1):=Lib.hid (by unfold hearW;simp only [];rw [if_neg (by rw [show dueW { s with code:=0 } = false from hd];decide),if_pos hf,if_neg (fun h => hr h.1)];rfl)
 have HR : Hid (s.field ≤ 10 → s.run ≤ 4):=Lib.hid (fun hf2 => run_le4 hd hf2 r1)
 have bf : decide (s.field ≤ 10) = true:=decide_eq_true hf
 have br : decide (0 < s.run) = false:=decide_eq_false hr
 have HFF:=Lib.hid hf
 clear hi ok hp hd hf hr
 go_enter Try.func134,Try.ntmps134
 go_wp2_with (fail)
 (refine (due_is p v _ _ HI1.out.obj _ HD.out).mono ?_;rintro e w' ⟨rfl,rfl⟩)
 go_wp2_with (fail)
 have HI3:=(HI1.out.put hS hpl (setW3 HI1.out.obj 1) rfl)
 have HI4:=Lib.hid (HI3.put hS hpl (setW4 HI3.obj 49) rfl)
 clear HI3
 (refine (impl_walk_plain.calls p v _ 1 (by omega) S w0 _ HI4.out hpl hS ⟨OK.out.f0,OK.out.f1,OK.out.l0,OK.out.l1,by simp only [];omega,by simp only [];omega,OK.out.d0,OK.out.d1,OK.out.g0,OK.out.g1,OK.out.i0,OK.out.i1,OK.out.ne,OK.out.by_,OK.out.dl⟩).mono ?_;intro e w2 hE;have HE:=Lib.hid hE;obtain rfl:=hE.ret;clear hE)
 go_wp2_with (fail)
 go_end0
 rw [HL.out]
 exact ⟨rfl,HE.out.at_,(((((Tch.refl1 _ _).one 0 _).one 3 _).one 4 _).mono fun k hk => .inl hk).trans HE.out.tch⟩
theorem hear_49_turn (p : Nat) (v : Value) (s : WS) (S : Nat → Prop) (w0 w : World) (hi : WIn w0 w p S s v) (hpl : w0.heap.size ≤ p) (hS : ¬ S p) (ok : WOk s) (hd : dueW s = false) (hf : s.field ≤ 10) (hr : 0 < s.run) (hl : ¬ s.level = 49) :
  Calls Try.prog 134 #[.pointer (some ⟨p,0,none⟩), .int .i32 49] w (EndP w0 w p S (hearW s 49)):=by
 have HI:=Lib.hid hi
 have OK:=Lib.hid ok
 have hp:=hi.obj
 have hc0:=cW0 hp
 have hc1:=cW1 hp
 have hc3:=cW3 hp
 have hc4:=cW4 hp
 have hf0:=fW hp 0
 have hf3:=fW hp 3
 have hf4:=fW hp 4
 have r0:=ok.r0
 have r1:=ok.r1
 have HI1:=Lib.hid (hi.put hS hpl (setW0 hp 0) rfl)
 have HD : Hid (dueW { s with code:=0 } = false):=Lib.hid hd
 have HL : Hid (hearW s 49 = plainW { s with code:=0,run:=1,level:=49 } 1):=Lib.hid (by unfold hearW;simp only [];rw [if_neg (by rw [show dueW { s with code:=0 } = false from hd];decide),if_pos hf,if_neg (fun h => hl h.2)];rfl)
 have HR : Hid (s.field ≤ 10 → s.run ≤ 4):=Lib.hid (fun hf2 => run_le4 hd hf2 r1)
 have bl : (s.level == 49) = false:=by simp [hl]
 have bl2 : ((49 : Int) == s.level) = false:=by simp;omega
 have bf : decide (s.field ≤ 10) = true:=decide_eq_true hf
 have br : decide (0 < s.run) = true:=decide_eq_true hr
 have HFF:=Lib.hid hf
 clear hi ok hp hd hl hf hr
 go_enter Try.func134,Try.ntmps134
 go_wp2_with (fail)
 (refine (due_is p v _ _ HI1.out.obj _ HD.out).mono ?_;rintro e w' ⟨rfl,rfl⟩)
 go_wp2_with (fail)
 have HI3:=(HI1.out.put hS hpl (setW3 HI1.out.obj 1) rfl)
 have HI4:=Lib.hid (HI3.put hS hpl (setW4 HI3.obj 49) rfl)
 clear HI3
 (refine (impl_walk_plain.calls p v _ 1 (by omega) S w0 _ HI4.out hpl hS ⟨OK.out.f0,OK.out.f1,OK.out.l0,OK.out.l1,by simp only [];omega,by simp only [];omega,OK.out.d0,OK.out.d1,OK.out.g0,OK.out.g1,OK.out.i0,OK.out.i1,OK.out.ne,OK.out.by_,OK.out.dl⟩).mono ?_;intro e w2 hE;have HE:=Lib.hid hE;obtain rfl:=hE.ret;clear hE)
 go_wp2_with (fail)
 go_end0
 rw [HL.out]
 exact ⟨rfl,HE.out.at_,(((((Tch.refl1 _ _).one 0 _).one 3 _).one 4 _).mono fun k hk => .inl hk).trans HE.out.tch⟩
theorem hear_49_late (p : Nat) (v : Value) (s : WS) (S : Nat → Prop) (w0 w : World) (hi : WIn w0 w p S s v) (hpl : w0.heap.size ≤ p) (hS : ¬ S p) (ok : WOk s) (hd : dueW s = false) (hf : ¬ s.field ≤ 10) :
  Calls Try.prog 134 #[.pointer (some ⟨p,0,none⟩), .int .i32 49] w (EndP w0 w p S (hearW s 49)):=by
 have HI:=Lib.hid hi
 have OK:=Lib.hid ok
 have hp:=hi.obj
 have hc0:=cW0 hp
 have hc1:=cW1 hp
 have hc3:=cW3 hp
 have hc4:=cW4 hp
 have hf0:=fW hp 0
 have hf3:=fW hp 3
 have hf4:=fW hp 4
 have r0:=ok.r0
 have r1:=ok.r1
 have HI1:=Lib.hid (hi.put hS hpl (setW0 hp 0) rfl)
 have HD : Hid (dueW { s with code:=0 } = false):=Lib.hid hd
 have HL : Hid (hearW s 49 = plainW { s with code:=0,run:=0 } 1):=Lib.hid (by unfold hearW;simp only [];rw [if_neg (by rw [show dueW { s with code:=0 } = false from hd];decide),if_neg hf];rfl)
 have HR : Hid (s.field ≤ 10 → s.run ≤ 4):=Lib.hid (fun hf2 => run_le4 hd hf2 r1)
 have bf : decide (s.field ≤ 10) = false:=decide_eq_false hf
 have HFF:=Lib.hid hf
 clear hi ok hp hd hf
 go_enter Try.func134,Try.ntmps134
 go_wp2_with (fail)
 (refine (due_is p v _ _ HI1.out.obj _ HD.out).mono ?_;rintro e w' ⟨rfl,rfl⟩)
 go_wp2_with (fail)
 have HI3:=Lib.hid (HI1.out.put hS hpl (setW3 HI1.out.obj 0) rfl)
 (refine (impl_walk_plain.calls p v _ 1 (by omega) S w0 _ HI3.out hpl hS ⟨OK.out.f0,OK.out.f1,OK.out.l0,OK.out.l1,by simp only [];omega,by simp only [];omega,OK.out.d0,OK.out.d1,OK.out.g0,OK.out.g1,OK.out.i0,OK.out.i1,OK.out.ne,OK.out.by_,OK.out.dl⟩).mono ?_;intro e w2 hE;have HE:=Lib.hid hE;obtain rfl:=hE.ret;clear hE)
 go_wp2_with (fail)
 go_end0
 rw [HL.out]
 exact ⟨rfl,HE.out.at_,((((Tch.refl1 _ _).one 0 _).one 3 _).mono fun k hk => .inl hk).trans HE.out.tch⟩
theorem impl_walk_hear.calls (p : Nat) (v : Value) (s : WS) (c : Int) (hc : c = 48 ∨ c = 49) (S : Nat → Prop) (w0 w : World) (hi : WIn w0 w p S s v) (hpl : w0.heap.size ≤ p) (hS : ¬ S p) (ok : WOk s) :
  Calls Try.prog 134 #[.pointer (some ⟨p,0,none⟩), .int .i32 c] w (EndP w0 w p S (hearW s c)):=by
 rcases hc with rfl | rfl
 ·cases hd : dueW s with
  | true =>
   by_cases hl : s.level = 48
   ·exact hear_48_stop p v s S w0 w hi hpl hS ok hd hl
   ·exact hear_48_skip p v s S w0 w hi hpl hS ok hd hl
  | false =>
   by_cases hf : s.field ≤ 10
   ·by_cases hr : 0 < s.run
    ·by_cases hl : s.level = 48
     ·exact hear_48_more p v s S w0 w hi hpl hS ok hd hf hr hl
     ·exact hear_48_turn p v s S w0 w hi hpl hS ok hd hf hr hl
    ·exact hear_48_first p v s S w0 w hi hpl hS ok hd hf hr
   ·exact hear_48_late p v s S w0 w hi hpl hS ok hd hf
 ·cases hd : dueW s with
  | true =>
   by_cases hl : s.level = 49
   ·exact hear_49_stop p v s S w0 w hi hpl hS ok hd hl
   ·exact hear_49_skip p v s S w0 w hi hpl hS ok hd hl
  | false =>
   by_cases hf : s.field ≤ 10
   ·by_cases hr : 0 < s.run
    ·by_cases hl : s.level = 49
     ·exact hear_49_more p v s S w0 w hi hpl hS ok hd hf hr hl
     ·exact hear_49_turn p v s S w0 w hi hpl hS ok hd hf hr hl
    ·exact hear_49_first p v s S w0 w hi hpl hS ok hd hf hr
   ·exact hear_49_late p v s S w0 w hi hpl hS ok hd hf
end Go.Proofs.Ytdoclpgciadjaaa.P

namespace Go.Proofs.Ytdoclpgciadjaaa.P
open Go Go.RowKit Go.Proofs.YtdoclpgciadjaaaW.PrintWords
set_option linter.unusedVariables false
@[elab_as_elim] theorem revInd {Q : List Int → Prop} (nil : Q []) (snoc : ∀ l c,Q l → Q (l ++ [c])) : ∀ l,Q l:=by
 intro l
 rw [← List.reverse_reverse l]
 induction l.reverse with
 | nil => exact nil
 | cons c t ih => rw [List.reverse_cons];exact snoc _ _ ih
def V (l : List Int) : Int:=l.foldl (fun v c => 2 * v + (c - 48)) 0
theorem V_nil : V [] = 0:=rfl
theorem V_snoc (l : List Int) (c : Int) : V (l ++ [c]) = 2 * V l + (c - 48):=by unfold V;rw [List.foldl_append];rfl
theorem V_range {l : List Int} (h : Bits l) : 0 ≤ V l ∧ V l < 2 ^ l.length:=by
 induction l using revInd with
 | nil => exact ⟨by decide,by decide⟩
 | snoc l c ih =>
  obtain ⟨h1,h2⟩:=ih (fun x hx => h x (List.mem_append_left _ hx))
  have hc:=h c (by simp)
  rw [V_snoc,List.length_append,List.length_singleton,Int.pow_succ]
  constructor <;> rcases hc with rfl | rfl <;> omega
theorem V_lt {l : List Int} (h : Bits l) {n : Nat} (hn : l.length ≤ n) {m : Int} (hm : (2 : Int) ^ n = m) : V l < m:=by
 have h1:=(V_range h).2
 have h2 : (2 : Int) ^ l.length ≤ 2 ^ n:=by
  have:=Nat.pow_le_pow_right (show 0 < 2 by decide) hn
  exact_mod_cast this
 omega
def byteStep (st : List Int × Nat) (c : Int) : List Int × Nat:=(if st.2 % 8 = 0 then st.1 ++ [(c - 48) % 256] else st.1.set (st.1.length - 1) ((2 * rd st.1 ((st.1.length : Int) - 1) + (c - 48)) % 256),st.2 + 1)
def bytesB (l : List Int) : List Int:=(l.foldl byteStep ([],0)).1
theorem bytesB_count (l : List Int) : (l.foldl byteStep ([],0)).2 = l.length:=by
 induction l using revInd with
 | nil => rfl
 | snoc l c ih => rw [List.foldl_append,List.length_append,List.length_singleton, ← ih];rfl
theorem bytesB_snoc (l : List Int) (c : Int) : bytesB (l ++ [c]) = if l.length % 8 = 0 then bytesB l ++ [(c - 48) % 256] else (bytesB l).set ((bytesB l).length - 1) ((2 * rd (bytesB l) (((bytesB l).length : Int) - 1) + (c - 48)) % 256):=by
 have:=bytesB_count l
 unfold bytesB
 rw [List.foldl_append,List.foldl_cons,List.foldl_nil,byteStep,this]
theorem bytesB_length (l : List Int) : (bytesB l).length = (l.length + 7) / 8:=by
 induction l using revInd with
 | nil => rfl
 | snoc l c ih =>
  rw [bytesB_snoc,List.length_append,List.length_singleton]
  split
  ·rw [List.length_append,List.length_singleton,ih];omega
  ·rw [List.length_set,ih];omega
theorem bytesB_range (l : List Int) : ∀ x ∈ bytesB l,0 ≤ x ∧ x < 256:=by
 induction l using revInd with
 | nil => intro x hx;cases hx
 | snoc l c ih =>
  intro x hx
  rw [bytesB_snoc] at hx
  split at hx
  ·rcases List.mem_append.1 hx with h | h
   ·exact ih x h
   ·rw [List.mem_singleton] at h;omega
  ·rcases List.mem_or_eq_of_mem_set hx with h | h
   ·exact ih x h
   ·omega
def crcS (l : List Int) : Int:=l.foldl (fun r c => crcI r (c - 48)) 0
theorem crcS_snoc (l : List Int) (c : Int) : crcS (l ++ [c]) = crcI (crcS l) (c - 48):=by unfold crcS;rw [List.foldl_append];rfl
inductive Hd : List Int → Bool → Bool → Int → Prop
 | base (a r z : Int) (I : List Int) (h : I.length = 11) : Hd (a :: I ++ [r,48,z]) false (r == 49) (V I)
 | ext (a r q z y : Int) (I J : List Int) (h : I.length = 11) (k : J.length = 18) : Hd (a :: I ++ [r,49] ++ J ++ [q,z,y]) true (q == 49) (V (I ++ J))
def core (s : WS) : Int × Int × Int × Bool × Int × Bool × Int × List Int:=(s.field,s.left,s.got,s.ext,s.id,s.rtr,s.dlc,s.data)
inductive Ph : List Int → Int × Int × Int × Bool × Int × Bool × Int × List Int → Int → Prop
 | sof : Ph [] (1,1,0,false,0,false,0, []) 0
 | ida (a : Int) (I : List Int) (h : I.length < 11) : Ph (a :: I) (2,11 - I.length,0,false,V I,false,0, []) (crcS (a :: I))
 | rtr (a : Int) (I : List Int) (h : I.length = 11) : Ph (a :: I) (3,1,0,false,V I,false,0, []) (crcS (a :: I))
 | ide (a r : Int) (I : List Int) (h : I.length = 11) : Ph (a :: I ++ [r]) (4,1,0,false,V I,r == 49,0, []) (crcS (a :: I ++ [r]))
 | idb (a r : Int) (I J : List Int) (h : I.length = 11) (k : J.length < 18) : Ph (a :: I ++ [r,49] ++ J) (5,18 - J.length,0,true,V (I ++ J),r == 49,0, []) (crcS (a :: I ++ [r,49] ++ J))
 | rtrx (a r : Int) (I J : List Int) (h : I.length = 11) (k : J.length = 18) : Ph (a :: I ++ [r,49] ++ J) (6,1,0,true,V (I ++ J),r == 49,0, []) (crcS (a :: I ++ [r,49] ++ J))
 | resx (a r q : Int) (I J Z : List Int) (h : I.length = 11) (k : J.length = 18) (z : Z.length < 2) : Ph (a :: I ++ [r,49] ++ J ++ [q] ++ Z) (7,2 - Z.length,0,true,V (I ++ J),q == 49,0, []) (crcS (a :: I ++ [r,49] ++ J ++ [q] ++ Z))
 | resb (a r : Int) (I : List Int) (h : I.length = 11) : Ph (a :: I ++ [r,48]) (7,1,0,false,V I,r == 49,0, []) (crcS (a :: I ++ [r,48]))
 | dlc (H D : List Int) (e r : Bool) (i : Int) (h : Hd H e r i) (d : D.length < 4) : Ph (H ++ D) (8,4 - D.length,0,e,i,r,V D, []) (crcS (H ++ D))
 | data (H D X : List Int) (e r : Bool) (i : Int) (h : Hd H e r i) (d : D.length = 4) (x : (X.length : Int) < 8 * dataB r (V D)) : Ph (H ++ D ++ X) (9,8 * dataB r (V D) - X.length,0,e,i,r,V D,bytesB X) (crcS (H ++ D ++ X))
 | crc (H D X C : List Int) (e r : Bool) (i : Int) (h : Hd H e r i) (d : D.length = 4) (x : (X.length : Int) = 8 * dataB r (V D)) (c : C.length < 15) : Ph (H ++ D ++ X ++ C) (10,15 - C.length,V C,e,i,r,V D,bytesB X) (crcS (H ++ D ++ X))
 | del (H D X C T : List Int) (e r : Bool) (i : Int) (h : Hd H e r i) (d : D.length = 4) (x : (X.length : Int) = 8 * dataB r (V D)) (c : C.length = 15) (t : T.length < 3) : Ph (H ++ D ++ X ++ C ++ T) (11 + T.length,1,V C,e,i,r,V D,bytesB X) (crcS (H ++ D ++ X))
 | eof (H D X C T : List Int) (e r : Bool) (i : Int) (h : Hd H e r i) (d : D.length = 4) (x : (X.length : Int) = 8 * dataB r (V D)) (c : C.length = 15) (t3 : 3 ≤ T.length) (t : T.length < 10) : Ph (H ++ D ++ X ++ C ++ T) (14,10 - T.length,V C,e,i,r,V D,bytesB X) (crcS (H ++ D ++ X))
theorem dataB_range {r : Bool} {d : Int} (h : 0 ≤ d) : 0 ≤ dataB r d ∧ dataB r d ≤ 8:=by unfold dataB;split <;> (try split) <;> omega
structure CoreIs (s : WS) (f l g : Int) (e : Bool) (i : Int) (r : Bool) (d : Int) (x : List Int) (m : Int) : Prop where
 f : s.field = f
 l : s.left = l
 g : s.got = g
 e : s.ext = e
 i : s.id = i
 r : s.rtr = r
 d : s.dlc = d
 x : s.data = x
 m : s.sum = m
theorem CoreIs.core {s : WS} {f l g : Int} {e : Bool} {i : Int} {r : Bool} {d : Int} {x : List Int} {m : Int} (h : CoreIs s f l g e i r d x m) : core s = (f,l,g,e,i,r,d,x) ∧ s.sum = m:=by
 obtain ⟨rfl,rfl,rfl,rfl,rfl,rfl,rfl,rfl,rfl⟩:=h
 exact ⟨rfl,rfl⟩
theorem core_is {s : WS} {f l g : Int} {e : Bool} {i : Int} {r : Bool} {d : Int} {x : List Int} {m : Int} (h : core s = (f,l,g,e,i,r,d,x)) (hm : s.sum = m) : CoreIs s f l g e i r d x m:=by
 unfold P.core at h
 simp only [Prod.mk.injEq] at h
 obtain ⟨h1,h2,h3,h4,h5,h6,h7,h8⟩:=h
 exact ⟨h1,h2,h3,h4,h5,h6,h7,h8,hm⟩
theorem next_is {s : WS} {f l g : Int} {e : Bool} {i : Int} {r : Bool} {d : Int} {x : List Int} {m : Int} (h : CoreIs s f l g e i r d x m) {f' l' : Int} (hn : nextP s = (f',l')) : CoreIs (nextW s) f' l' g e i r d x m:=by
 rw [nextW_eq,hn]
 exact ⟨rfl,rfl,h.g,h.e,h.i,h.r,h.d,h.x,h.m⟩
theorem next_more {s : WS} {l : Int} (h : s.left = l) (hl : 1 < l) : nextP s = (s.field,l - 1):=by unfold nextP;rw [if_pos (by omega),h]
theorem next_over {s : WS} {f l : Int} (h : s.left = 1) (hf : s.field = f) (h4 : f ≠ 4 ∨ s.ext = true) (h9 : f + 1 ≠ 9 ∨ dataB s.rtr s.dlc ≠ 0) (hl : enterL s (f + 1) = l) : nextP s = (f + 1,l):=by
 unfold nextP enterP
 rw [if_neg (by omega),if_neg (by rintro ⟨a,b⟩;rcases h4 with h4 | h4;exact h4 (by omega);rw [b] at h4;cases h4),hf,if_neg (by rintro ⟨a,b⟩;rcases h9 with h9 | h9;exact h9 a;exact h9 b),hl]
end Go.Proofs.Ytdoclpgciadjaaa.P

namespace Go.Proofs.Ytdoclpgciadjaaa.P
open Go Go.RowKit Go.Proofs.YtdoclpgciadjaaaW.PrintWords
set_option linter.unusedVariables false
def tk (s : WS) (b : Int) : WS:=takeW (sumW s b) b
section
variable {s : WS} {f l g : Int} {e : Bool} {i : Int} {r : Bool} {d : Int} {x : List Int} {m : Int}
theorem CoreIs.of (h : CoreIs s f l g e i r d x m) {f' l' g' : Int} {e' : Bool} {i' : Int} {r' : Bool} {d' : Int} {x' : List Int} {m' : Int} (h1 : f = f') (h2 : l = l') (h3 : g = g') (h4 : e = e') (h5 : i = i') (h6 : r = r') (h7 : d = d') (h8 : x = x') (h9 : m = m') : CoreIs s f' l' g' e' i' r' d' x' m':=by
 subst h1 h2 h3 h4 h5 h6 h7 h8 h9;exact h
theorem sum_in (h : CoreIs s f l g e i r d x m) (hf : f ≤ 9) (b : Int) : sumW s b = { s with sum:=crcI s.sum b }:=by unfold sumW;rw [if_pos (by have:=h.f;omega)]
theorem sum_out (h : CoreIs s f l g e i r d x m) (hf : 9 < f) (b : Int) : sumW s b = s:=by unfold sumW;rw [if_neg (by have:=h.f;omega)]
theorem tk_sof (h : CoreIs s 1 l g e i r d x m) (b : Int) : CoreIs (tk s b) 1 l g e i r d x (crcI m b):=by
 have h0:=h.f
 have e1 : core (tk s b) = core s ∧ (tk s b).sum = crcI s.sum b:=by
  unfold tk takeW;rw [sum_in h (by omega),if_pos (show s.field = 1 from h0)]
  split <;> exact ⟨rfl,rfl⟩
 refine core_is (e1.1.trans h.core.1) (e1.2.trans (by rw [h.m]))
theorem tk_id (h : CoreIs s f l g e i r d x m) (hf : f = 2 ∨ f = 5) (b : Int) : CoreIs (tk s b) f l g e ((2 * i + b) % 4294967296) r d x (crcI m b):=by
 have h0:=h.f
 have e1 : tk s b = { s with sum:=crcI s.sum b,id:=(2 * s.id + b) % 4294967296 }:=by
  unfold tk takeW;rw [sum_in h (by omega),if_neg (show ¬ s.field = 1 by omega),if_pos (show s.field = 2 ∨ s.field = 5 by omega)]
 rw [e1]
 exact ⟨h.f,h.l,h.g,h.e,by simp only [h.i],h.r,h.d,h.x,by simp only [h.m]⟩
theorem tk_rtr (h : CoreIs s f l g e i r d x m) (hf : f = 3 ∨ f = 6) (b : Int) : CoreIs (tk s b) f l g e i (b == 1) d x (crcI m b):=by
 have h0:=h.f
 have e1 : tk s b = { s with sum:=crcI s.sum b,rtr:=b == 1 }:=by
  unfold tk takeW;rw [sum_in h (by omega),if_neg (show ¬ s.field = 1 by omega),if_neg (show ¬ (s.field = 2 ∨ s.field = 5) by omega),if_pos (show s.field = 3 ∨ s.field = 6 by omega)]
 rw [e1]
 exact ⟨h.f,h.l,h.g,h.e,h.i,rfl,h.d,h.x,by simp only [h.m]⟩
theorem tk_ide (h : CoreIs s 4 l g e i r d x m) (b : Int) : CoreIs (tk s b) 4 l g (b == 1) i r d x (crcI m b):=by
 have h0:=h.f
 have e1 : tk s b = { s with sum:=crcI s.sum b,ext:=b == 1 }:=by
  unfold tk takeW;rw [sum_in h (by omega),if_neg (show ¬ s.field = 1 by omega),if_neg (show ¬ (s.field = 2 ∨ s.field = 5) by omega),if_neg (show ¬ (s.field = 3 ∨ s.field = 6) by omega),if_pos (show s.field = 4 from h0)]
 rw [e1]
 exact ⟨h.f,h.l,h.g,rfl,h.i,h.r,h.d,h.x,by simp only [h.m]⟩
theorem tk_res (h : CoreIs s 7 l g e i r d x m) (b : Int) : CoreIs (tk s b) 7 l g e i r d x (crcI m b):=by
 have h0:=h.f
 have e1 : tk s b = { s with sum:=crcI s.sum b }:=by
  unfold tk takeW;rw [sum_in h (by omega),if_neg (show ¬ s.field = 1 by omega),if_neg (show ¬ (s.field = 2 ∨ s.field = 5) by omega),if_neg (show ¬ (s.field = 3 ∨ s.field = 6) by omega),if_neg (show ¬ s.field = 4 by omega),if_neg (show ¬ s.field = 8 by omega),if_neg (show ¬ s.field = 9 by omega),if_neg (show ¬ s.field = 10 by omega),if_neg (show ¬ s.field = 11 by omega),if_neg (show ¬ s.field = 13 by omega),if_neg (show ¬ s.field = 14 by omega)]
 rw [e1]
 exact ⟨h.f,h.l,h.g,h.e,h.i,h.r,h.d,h.x,by simp only [h.m]⟩
theorem tk_dlc (h : CoreIs s 8 l g e i r d x m) (b : Int) : CoreIs (tk s b) 8 l g e i r (2 * d + b) x (crcI m b):=by
 have h0:=h.f
 have e1 : tk s b = { s with sum:=crcI s.sum b,dlc:=2 * s.dlc + b }:=by
  unfold tk takeW;rw [sum_in h (by omega),if_neg (show ¬ s.field = 1 by omega),if_neg (show ¬ (s.field = 2 ∨ s.field = 5) by omega),if_neg (show ¬ (s.field = 3 ∨ s.field = 6) by omega),if_neg (show ¬ s.field = 4 by omega),if_pos (show s.field = 8 from h0)]
 rw [e1]
 exact ⟨h.f,h.l,h.g,h.e,h.i,h.r,by simp only [h.d],h.x,by simp only [h.m]⟩
theorem tk_data (h : CoreIs s 9 l g e i r d x m) (b : Int) : CoreIs (tk s b) 9 l g e i r d (dataW s b) (crcI m b):=by
 have h0:=h.f
 have e1 : tk s b = { s with sum:=crcI s.sum b,data:=dataW s b }:=by
  unfold tk;rw [sum_in h (by omega),takeW9 ({ s with sum:=crcI s.sum b }) b h0];rfl
 rw [e1]
 exact ⟨h.f,h.l,h.g,h.e,h.i,h.r,h.d,rfl,by simp only [h.m]⟩
theorem tk_got (h : CoreIs s 10 l g e i r d x m) (b : Int) : CoreIs (tk s b) 10 l (2 * g + b) e i r d x m:=by
 have h0:=h.f
 have e1 : tk s b = { s with got:=2 * s.got + b }:=by
  unfold tk takeW;rw [sum_out h (by omega),if_neg (show ¬ s.field = 1 by omega),if_neg (show ¬ (s.field = 2 ∨ s.field = 5) by omega),if_neg (show ¬ (s.field = 3 ∨ s.field = 6) by omega),if_neg (show ¬ s.field = 4 by omega),if_neg (show ¬ s.field = 8 by omega),if_neg (show ¬ s.field = 9 by omega),if_pos (show s.field = 10 from h0)]
 rw [e1]
 exact ⟨h.f,h.l,by simp only [h.g],h.e,h.i,h.r,h.d,h.x,h.m⟩
theorem endW_core (s : WS) (b : Int) : core (endW s b) = core s ∧ (endW s b).sum = s.sum:=by unfold endW;(repeat' split) <;> exact ⟨rfl,rfl⟩
theorem tk_late (h : CoreIs s f l g e i r d x m) (hf : 11 ≤ f) (b : Int) : CoreIs (tk s b) f l g e i r d x m:=by
 have h0:=h.f
 have e1 : core (tk s b) = core s ∧ (tk s b).sum = s.sum:=by
  unfold tk takeW;rw [sum_out h (by omega),if_neg (show ¬ s.field = 1 by omega),if_neg (show ¬ (s.field = 2 ∨ s.field = 5) by omega),if_neg (show ¬ (s.field = 3 ∨ s.field = 6) by omega),if_neg (show ¬ s.field = 4 by omega),if_neg (show ¬ s.field = 8 by omega),if_neg (show ¬ s.field = 9 by omega),if_neg (show ¬ s.field = 10 by omega)]
  have:=endW_core s b
  (repeat' split) <;> first | exact ⟨rfl,rfl⟩ | exact this
 exact core_is (e1.1.trans h.core.1) (e1.2.trans h.m)
end
theorem bits_len {p : List Int} (h : Bits p) (q : List Int) (hq : ∀ x ∈ q,x ∈ p) : Bits q:=fun x hx => h x (hq x hx)
theorem dataW_eq {s : WS} {X : List Int} {n : Int} (b : Int) (hx : s.data = bytesB X) (hl : s.left = 8 * n - X.length) (hb : b = 48 ∨ b = 49) : dataW s (b - 48) = bytesB (X ++ [b]):=by
 have hlen:=bytesB_length X
 unfold dataW
 rw [bytesB_snoc,hx]
 by_cases c : X.length % 8 = 0
 ·rw [if_pos c,if_pos (by omega)]
  have hl2 : (bytesB X ++ [(0 : Int)]).length - 1 = (bytesB X).length:=by simp
  have hr : rd (bytesB X ++ [(0 : Int)]) (((bytesB X ++ [(0 : Int)]).length : Int) - 1) = 0:=by
   rw [List.length_append,List.length_singleton,show (((bytesB X).length + 1 : Nat) : Int) - 1 = ((bytesB X).length : Int) by omega,rd_snoc,if_neg (by omega),if_pos rfl]
  simp only [hl2,hr]
  rw [List.set_append_right _ _ (Nat.le_refl _),Nat.sub_self]
  simp
 ·rw [if_neg c,if_neg (by omega)]
theorem ph_step {p : List Int} {c : Int × Int × Int × Bool × Int × Bool × Int × List Int} {m : Int} (h : Ph p c m) (s : WS) (hs : core s = c) (hm : s.sum = m) (b : Int) (hb : b = 48 ∨ b = 49) (hp : Bits p) (hend : ¬ (s.field = 14 ∧ s.left = 1)) :
  ∃ c' m',Ph (p ++ [b]) c' m' ∧ core (plainW s (b - 48)) = c' ∧ (plainW s (b - 48)).sum = m':=by
 have fin : ∀ {q : List Int} {f l g : Int} {e : Bool} {i : Int} {r : Bool} {d : Int} {x : List Int} {m' : Int},p ++ [b] = q → Ph q (f,l,g,e,i,r,d,x) m' → CoreIs (plainW s (b - 48)) f l g e i r d x m' → ∃ c' m',Ph (p ++ [b]) c' m' ∧ core (plainW s (b - 48)) = c' ∧ (plainW s (b - 48)).sum = m':=by
  intro q f l g e i r d x m' hq hP hC
  exact ⟨_,_,hq ▸ hP,hC.core.1,hC.core.2⟩
 have b1 : ((b - 48 : Int) == 1) = (b == 49):=by rcases hb with rfl | rfl <;> rfl
 have hpl : plainW s (b - 48) = nextW (tk s (b - 48)):=rfl
 rw [hpl] at fin ⊢
 cases h with
 | sof =>
  have C:=core_is hs hm
  have T:=tk_sof C (b - 48)
  exact fin rfl (Ph.ida b [] (by decide)) ((next_is T (next_over T.l T.f (.inl (by omega)) (.inl (by omega)) rfl)).of rfl rfl rfl rfl rfl rfl rfl rfl (by rw [show [b] = [] ++ [b] from rfl,crcS_snoc];rfl))
 | ida a I h =>
  have C:=core_is hs hm
  have T:=tk_id C (.inl rfl) (b - 48)
  have hI:=V_lt (bits_len hp I (fun x hx => List.mem_cons_of_mem _ hx)) (n:=20) (by omega) rfl
  have hI0:=(V_range (bits_len hp I (fun x hx => List.mem_cons_of_mem _ hx))).1
  have hv : (2 * V I + (b - 48)) % 4294967296 = V (I ++ [b]):=by rw [V_snoc];omega
  by_cases c : I.length = 10
  ·exact fin rfl (Ph.rtr a (I ++ [b]) (by simp;omega)) ((next_is T (next_over (by rw [T.l];omega) T.f (.inl (by omega)) (.inl (by omega)) rfl)).of rfl rfl rfl rfl hv rfl rfl rfl (crcS_snoc _ _).symm)
  ·exact fin rfl (Ph.ida a (I ++ [b]) (by simp;omega)) ((next_is T (next_more T.l (by omega))).of T.f (by simp;omega) rfl rfl hv rfl rfl rfl (crcS_snoc _ _).symm)
 | rtr a I h =>
  have C:=core_is hs hm
  have T:=tk_rtr C (.inl rfl) (b - 48)
  exact fin rfl (Ph.ide a b I h) ((next_is T (next_over T.l T.f (.inl (by omega)) (.inl (by omega)) rfl)).of rfl rfl rfl rfl rfl b1 rfl rfl (crcS_snoc _ _).symm)
 | ide a r I h =>
  have C:=core_is hs hm
  have T:=tk_ide C (b - 48)
  rcases hb with rfl | rfl
  ·refine fin (q:=a :: I ++ [r,48]) (by simp) (Ph.resb a r I h) ((next_is (f':=7) (l':=1) T ?_).of rfl rfl rfl rfl rfl rfl rfl rfl (by rw [← crcS_snoc];simp))
   unfold nextP enterP
   rw [if_neg (by rw [T.l];omega),if_pos ⟨T.f,T.e⟩,if_neg (fun h => by have:=h.1;omega)]
   unfold enterL
   rw [T.e];rfl
  ·exact fin (q:=a :: I ++ [r,49] ++ []) (by simp) (Ph.idb a r I [] h (by decide)) ((next_is T (next_over T.l T.f (.inr T.e) (.inl (by omega)) rfl)).of rfl rfl rfl rfl (by simp) rfl rfl rfl (by rw [← crcS_snoc];simp))
 | idb a r I J h k =>
  have C:=core_is hs hm
  have T:=tk_id C (.inr rfl) (b - 48)
  have hbij : Bits (I ++ J):=bits_len hp _ (fun x hx => by rcases List.mem_append.1 hx with h2 | h2 <;> simp [h2])
  have hI:=V_lt hbij (n:=29) (by simp;omega) rfl
  have hI0:=(V_range hbij).1
  have hv : (2 * V (I ++ J) + (b - 48)) % 4294967296 = V (I ++ (J ++ [b])):=by rw [← List.append_assoc,V_snoc];omega
  have hcr : crcI (crcS (a :: I ++ [r,49] ++ J)) (b - 48) = crcS (a :: I ++ [r,49] ++ (J ++ [b])):=by rw [← crcS_snoc];simp
  by_cases c : J.length = 17
  ·exact fin (q:=a :: I ++ [r,49] ++ (J ++ [b])) (by simp) (Ph.rtrx a r I (J ++ [b]) h (by simp;omega)) ((next_is T (next_over (by rw [T.l];omega) T.f (.inl (by omega)) (.inl (by omega)) rfl)).of rfl rfl rfl rfl hv rfl rfl rfl hcr)
  ·exact fin (q:=a :: I ++ [r,49] ++ (J ++ [b])) (by simp) (Ph.idb a r I (J ++ [b]) h (by simp;omega)) ((next_is T (next_more T.l (by omega))).of T.f (by simp;omega) rfl rfl hv rfl rfl rfl hcr)
 | rtrx a r I J h k =>
  have C:=core_is hs hm
  have T:=tk_rtr C (.inr rfl) (b - 48)
  refine fin (q:=a :: I ++ [r,49] ++ J ++ [b] ++ []) (by simp) (Ph.resx a r b I J [] h k (by decide)) ((next_is (f':=7) (l':=2) T ?_).of rfl rfl rfl rfl rfl b1 rfl rfl (by rw [← crcS_snoc];simp))
  refine next_over (f:=6) T.l T.f (.inl (by omega)) (.inl (by omega)) ?_
  show enterL _ 7 = 2
  unfold enterL
  rw [T.e];rfl
 | resx a r q I J Z h k z =>
  have C:=core_is hs hm
  have T:=tk_res C (b - 48)
  by_cases c : Z.length = 0
  ·obtain rfl:=List.eq_nil_of_length_eq_zero c
   exact fin (q:=a :: I ++ [r,49] ++ J ++ [q] ++ [b]) (by simp) (Ph.resx a r q I J [b] h k (by simp)) ((next_is T (next_more T.l (by simp))).of T.f (by simp) rfl rfl rfl rfl rfl rfl (by rw [← crcS_snoc];simp))
  ·obtain ⟨z0,rfl⟩ : ∃ z0,Z = [z0]:=List.length_eq_one_iff.1 (by omega)
   exact fin (q:=(a :: I ++ [r,49] ++ J ++ [q,z0,b]) ++ []) (by simp) (Ph.dlc _ [] true (q == 49) _ (Hd.ext a r q z0 b I J h k) (by decide)) ((next_is T (next_over (by rw [T.l];rfl) T.f (.inl (by omega)) (.inl (by omega)) rfl)).of rfl rfl rfl rfl rfl rfl rfl rfl (by rw [← crcS_snoc];simp))
 | resb a r I h =>
  have C:=core_is hs hm
  have T:=tk_res C (b - 48)
  exact fin (q:=(a :: I ++ [r,48,b]) ++ []) (by simp) (Ph.dlc _ [] false (r == 49) _ (Hd.base a r b I h) (by decide)) ((next_is T (next_over T.l T.f (.inl (by omega)) (.inl (by omega)) rfl)).of rfl rfl rfl rfl rfl rfl rfl rfl (by rw [← crcS_snoc];simp))
 | dlc H D e r i h d =>
  have C:=core_is hs hm
  have T:=tk_dlc C (b - 48)
  have hv : 2 * V D + (b - 48) = V (D ++ [b]):=(V_snoc _ _).symm
  have hcr : crcI (crcS (H ++ D)) (b - 48) = crcS (H ++ (D ++ [b])):=by rw [← crcS_snoc];simp
  have hd0 : 0 ≤ V (D ++ [b]):=(V_range (l:=D ++ [b]) (fun x hx => by rcases List.mem_append.1 hx with h2 | h2;exact hp x (List.mem_append_right _ h2);rw [List.mem_singleton] at h2;rw [h2];exact hb)).1
  by_cases c : D.length = 3
  ·have hd4 : (D ++ [b]).length = 4:=by simp;omega
   by_cases cz : dataB r (V (D ++ [b])) = 0
   ·refine fin (q:=H ++ (D ++ [b]) ++ [] ++ []) (by simp) (Ph.crc H (D ++ [b]) [] [] e r i h hd4 (by rw [cz];rfl) (by decide)) ((next_is (f':=10) (l':=15) T ?_).of rfl rfl rfl rfl rfl rfl hv rfl (by rw [hcr];simp))
    unfold nextP enterP
    rw [if_neg (by rw [T.l];omega),if_neg (by rw [T.f];omega),if_pos ⟨by rw [T.f];rfl,by rw [T.r,T.d,hv];exact cz⟩]
   ·have hr:=dataB_range (r:=r) hd0
    refine fin (q:=H ++ (D ++ [b]) ++ []) (by simp) (Ph.data H (D ++ [b]) [] e r i h hd4 (by simp;omega)) ((next_is (f':=9) (l':=8 * dataB r (V (D ++ [b]))) T ?_).of rfl (by simp) rfl rfl rfl rfl hv rfl (by rw [hcr];simp))
    refine next_over (f:=8) (by rw [T.l];omega) T.f (.inl (by omega)) (.inr (by rw [T.r,T.d,hv];exact cz)) ?_
    show enterL _ 9 = _
    unfold enterL
    rw [T.r,T.d,hv];rfl
  ·exact fin (q:=H ++ (D ++ [b])) (by simp) (Ph.dlc H (D ++ [b]) e r i h (by simp;omega)) ((next_is T (next_more T.l (by omega))).of T.f (by simp;omega) rfl rfl rfl rfl hv rfl hcr)
 | data H D X e r i h d x =>
  have C:=core_is hs hm
  have T:=tk_data C (b - 48)
  have hx:=dataW_eq (s:=s) (n:=dataB r (V D)) b C.x C.l hb
  have hcr : crcI (crcS (H ++ D ++ X)) (b - 48) = crcS (H ++ D ++ (X ++ [b])):=by rw [← crcS_snoc];simp
  by_cases c : (X.length : Int) + 1 = 8 * dataB r (V D)
  ·exact fin (q:=H ++ D ++ (X ++ [b]) ++ []) (by simp) (Ph.crc H D (X ++ [b]) [] e r i h d (by simp;omega) (by decide)) ((next_is T (next_over (by rw [T.l];omega) T.f (.inl (by omega)) (.inl (by omega)) rfl)).of rfl rfl rfl rfl rfl rfl rfl hx hcr)
  ·exact fin (q:=H ++ D ++ (X ++ [b])) (by simp) (Ph.data H D (X ++ [b]) e r i h d (by simp;omega)) ((next_is T (next_more T.l (by omega))).of T.f (by simp;omega) rfl rfl rfl rfl rfl hx hcr)
 | crc H D X C0 e r i h d x c =>
  have C:=core_is hs hm
  have T:=tk_got C (b - 48)
  have hv : 2 * V C0 + (b - 48) = V (C0 ++ [b]):=(V_snoc _ _).symm
  by_cases cc : C0.length = 14
  ·exact fin (q:=H ++ D ++ X ++ (C0 ++ [b]) ++ []) (by simp) (Ph.del H D X (C0 ++ [b]) [] e r i h d x (by simp;omega) (by decide)) ((next_is T (next_over (by rw [T.l];omega) T.f (.inl (by omega)) (.inl (by omega)) rfl)).of rfl rfl hv rfl rfl rfl rfl rfl rfl)
  ·exact fin (q:=H ++ D ++ X ++ (C0 ++ [b])) (by simp) (Ph.crc H D X (C0 ++ [b]) e r i h d x (by simp;omega)) ((next_is T (next_more T.l (by omega))).of T.f (by simp;omega) hv rfl rfl rfl rfl rfl rfl)
 | del H D X C0 T0 e r i h d x c t =>
  have C:=core_is hs hm
  have T:=tk_late C (by omega) (b - 48)
  by_cases cc : T0.length = 2
  ·refine fin (q:=H ++ D ++ X ++ C0 ++ (T0 ++ [b])) (by simp) (Ph.eof H D X C0 (T0 ++ [b]) e r i h d x c (by simp;omega) (by simp;omega)) ((next_is (f':=14) (l':=7) T ?_).of rfl (by simp;omega) rfl rfl rfl rfl rfl rfl rfl)
   refine (next_over (f:=13) T.l (by rw [T.f];omega) (.inl (by omega)) (.inl (by omega)) ?_)
   rfl
  ·refine fin (q:=H ++ D ++ X ++ C0 ++ (T0 ++ [b])) (by simp) (Ph.del H D X C0 (T0 ++ [b]) e r i h d x c (by simp;omega)) ((next_is (f':=11 + T0.length + 1) (l':=1) T ?_).of (by simp;omega) rfl rfl rfl rfl rfl rfl rfl rfl)
   refine (next_over (f:=11 + T0.length) T.l T.f (.inl (by omega)) (.inl (by omega)) ?_)
   unfold enterL
   rw [if_neg (by omega),if_neg (by omega),if_neg (by omega),if_neg (by omega),if_neg (by omega),if_neg (by omega),if_neg (by omega)]
 | eof H D X C0 T0 e r i h d x c t3 t =>
  have C:=core_is hs hm
  have T:=tk_late C (by omega) (b - 48)
  have hl:=C.l
  have hf:=C.f
  exact fin (q:=H ++ D ++ X ++ C0 ++ (T0 ++ [b])) (by simp) (Ph.eof H D X C0 (T0 ++ [b]) e r i h d x c (by simp;omega) (by simp;omega)) ((next_is T (next_more T.l (by omega))).of T.f (by simp;omega) rfl rfl rfl rfl rfl rfl rfl)
end Go.Proofs.Ytdoclpgciadjaaa.P

namespace Go.Proofs.Ytdoclpgciadjaaa.P
open Go Go.RowKit Go.Proofs.YtdoclpgciadjaaaW.PrintWords
set_option linter.unusedVariables false
structure Trail (l : List Int) (n run : Nat) (last : Int) : Prop where
 le : n ≤ l.length
 run_le : run ≤ n
 same : ∀ j,n - run ≤ j → j < n → rd l (j : Int) = last
 other : run < n → rd l ((n - run - 1 : Nat) : Int) ≠ last
 pos : 0 < n → 0 < run
theorem Trail.zero (l : List Int) (last : Int) : Trail l 0 0 last:=⟨Nat.zero_le _,Nat.le_refl _,fun j _ h => absurd h (Nat.not_lt_zero j),fun h => absurd h (Nat.lt_irrefl _),fun h => absurd h (Nat.lt_irrefl _)⟩
theorem Trail.next {l : List Int} {n run : Nat} {last : Int} (h : Trail l n run last) (hn : n < l.length) : Trail l (n + 1) (if rd l (n : Int) = last then run + 1 else 1) (rd l (n : Int)):=by
 have hr:=h.run_le
 by_cases c : rd l (n : Int) = last
 ·rw [if_pos c]
  refine ⟨by omega,by omega,fun j h1 h2 => ?_,fun h1 => ?_,fun _ => by omega⟩
  ·by_cases e : j = n
   ·rw [e]
   ·rw [h.same j (by omega) (by omega),c]
  ·rw [show n + 1 - (run + 1) - 1 = n - run - 1 by omega,c]
   exact h.other (by omega)
 ·rw [if_neg c]
  refine ⟨by omega,by omega,fun j h1 h2 => ?_,fun h1 => ?_,fun _ => by omega⟩
  ·rw [show j = n by omega]
  ·rw [show n + 1 - 1 - 1 = n - 1 by omega]
   have hp:=h.pos (by omega)
   rw [h.same (n - 1) (by omega) (by omega)]
   exact fun e => c e.symm
theorem rd_append (l m : List Int) (j : Nat) (h : j < l.length) : rd (l ++ m) (j : Int) = rd l (j : Int):=by
 unfold rd
 rw [Int.toNat_natCast,List.getD_eq_getElem?_getD,List.getD_eq_getElem?_getD,List.getElem?_append_left h]
theorem rd_last (l : List Int) (c : Int) : rd (l ++ [c]) (l.length : Int) = c:=by
 rw [rd_snoc,if_neg (Nat.lt_irrefl _),if_pos rfl]
theorem Trail.append {l : List Int} {n run : Nat} {last : Int} (h : Trail l n run last) (m : List Int) : Trail (l ++ m) n run last:=by
 have:=h.le
 refine ⟨by rw [List.length_append];omega,h.run_le,fun j h1 h2 => ?_,fun h1 => ?_,h.pos⟩
 ·rw [rd_append l m j (by omega)];exact h.same j h1 h2
 ·rw [rd_append l m _ (by omega)];exact h.other h1
theorem Trail.snoc {l : List Int} {run : Nat} {last : Int} (h : Trail l l.length run last) (c : Int) : Trail (l ++ [c]) (l.length + 1) (if c = last then run + 1 else 1) c:=by
 have h1:=(h.append [c]).next (by simp)
 rw [rd_last] at h1
 exact h1
theorem Trail.five {l : List Int} {n run : Nat} {last : Int} (h : Trail l n run last) (h5 : run ≤ 5) (hn : 5 ≤ n) :
  (run = 5 ↔ (rd l ((n - 1 : Nat) : Int) = rd l ((n - 2 : Nat) : Int) ∧ rd l ((n - 2 : Nat) : Int) = rd l ((n - 3 : Nat) : Int) ∧ rd l ((n - 3 : Nat) : Int) = rd l ((n - 4 : Nat) : Int) ∧ rd l ((n - 4 : Nat) : Int) = rd l ((n - 5 : Nat) : Int))):=by
 have hp:=h.pos (by omega)
 have e1:=h.same (n - 1) (by omega) (by omega)
 constructor
 ·intro e
  subst e
  have e2:=h.same (n - 2) (by omega) (by omega)
  have e3:=h.same (n - 3) (by omega) (by omega)
  have e4:=h.same (n - 4) (by omega) (by omega)
  have e5:=h.same (n - 5) (by omega) (by omega)
  rw [e1,e2,e3,e4,e5]
  exact ⟨rfl,rfl,rfl,rfl⟩
 ·rintro ⟨a1,a2,a3,a4⟩
  rcases Nat.lt_or_ge run 5 with hlt | hge
  ·exfalso
   have ho:=h.other (by omega)
   have hc : run = 1 ∨ run = 2 ∨ run = 3 ∨ run = 4:=by omega
   rcases hc with rfl | rfl | rfl | rfl
   ·exact ho (by rw [show n - 1 - 1 = n - 2 by omega, ← a1,e1])
   ·exact ho (by rw [show n - 2 - 1 = n - 3 by omega, ← a2, ← a1,e1])
   ·exact ho (by rw [show n - 3 - 1 = n - 4 by omega, ← a3, ← a2, ← a1,e1])
   ·exact ho (by rw [show n - 4 - 1 = n - 5 by omega, ← a4, ← a3, ← a2, ← a1,e1])
  ·omega
end Go.Proofs.Ytdoclpgciadjaaa.P
