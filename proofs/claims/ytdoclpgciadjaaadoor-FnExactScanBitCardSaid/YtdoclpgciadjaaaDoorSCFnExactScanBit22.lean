/- Texts of the proof of CFnExactScanBit, joined. -/
import Derived.Test.YtdoclpgciadjaaaDoorSCFnExactScanBit21
import Derived.StillTailTactics
import Derived.Deep.QuietTactic
import Derived.Deep.RegionWith
import Derived.BigQuiet
namespace Go.Proofs.YtdoclpgciadjaaaDoor.P
open Go Go.RowKit Go.Proofs.YtdoclpgciadjaaaDoorW.PrintWords
set_option linter.unusedVariables false
structure SS where
 field : Int
 left : Int
 run : Int
 level : Int
 crc : Int
 acc : Int
 ext : Bool
 id : Int
 rtr : Bool
 dlc : Int
 data : List Int
def cellsS (s : SS) (v : Value) : Array Value := #[.int .i64 s.field, .int .i64 s.left, .int .i64 s.run, .int .i64 s.level, .int .i64 s.crc, .int .i64 s.acc, .bool s.ext, .int .u32 s.id, .bool s.rtr, .int .i64 s.dlc,v]
def objS (s : SS) (v : Value) : Obj := .cells (cellsS s v) 31 (0,0)
section
variable {w : World} {p : Nat} {s : SS} {v : Value} (h : w.heap[p]? = some (objS s v))
include h
theorem cS0 : w.cell? ⟨p,0,none⟩ = some (.int .i64 s.field):=blk_cell h 0
theorem cS1 : w.cell? ⟨p,1,none⟩ = some (.int .i64 s.left):=blk_cell h 1
theorem cS2 : w.cell? ⟨p,2,none⟩ = some (.int .i64 s.run):=blk_cell h 2
theorem cS3 : w.cell? ⟨p,3,none⟩ = some (.int .i64 s.level):=blk_cell h 3
theorem cS4 : w.cell? ⟨p,4,none⟩ = some (.int .i64 s.crc):=blk_cell h 4
theorem cS5 : w.cell? ⟨p,5,none⟩ = some (.int .i64 s.acc):=blk_cell h 5
theorem cS6 : w.cell? ⟨p,6,none⟩ = some (.bool s.ext):=blk_cell h 6
theorem cS7 : w.cell? ⟨p,7,none⟩ = some (.int .u32 s.id):=blk_cell h 7
theorem cS8 : w.cell? ⟨p,8,none⟩ = some (.bool s.rtr):=blk_cell h 8
theorem cS9 : w.cell? ⟨p,9,none⟩ = some (.int .i64 s.dlc):=blk_cell h 9
theorem cS10 : w.cell? ⟨p,10,none⟩ = some v:=blk_cell h 10
theorem fS (j : Nat) : w.frozen? ⟨p,j,none⟩ = false:=blk_frozen h j
theorem setS0 (x : Int) : (w.setCell ⟨p,0,none⟩ (.int .i64 x)).heap[p]? = some (objS { s with field:=x } v):=by simp only [World.setCell,Array.getElem?_modify,h];rfl
theorem setS1 (x : Int) : (w.setCell ⟨p,1,none⟩ (.int .i64 x)).heap[p]? = some (objS { s with left:=x } v):=by simp only [World.setCell,Array.getElem?_modify,h];rfl
theorem setS2 (x : Int) : (w.setCell ⟨p,2,none⟩ (.int .i64 x)).heap[p]? = some (objS { s with run:=x } v):=by simp only [World.setCell,Array.getElem?_modify,h];rfl
theorem setS3 (x : Int) : (w.setCell ⟨p,3,none⟩ (.int .i64 x)).heap[p]? = some (objS { s with level:=x } v):=by simp only [World.setCell,Array.getElem?_modify,h];rfl
theorem setS4 (x : Int) : (w.setCell ⟨p,4,none⟩ (.int .i64 x)).heap[p]? = some (objS { s with crc:=x } v):=by simp only [World.setCell,Array.getElem?_modify,h];rfl
theorem setS5 (x : Int) : (w.setCell ⟨p,5,none⟩ (.int .i64 x)).heap[p]? = some (objS { s with acc:=x } v):=by simp only [World.setCell,Array.getElem?_modify,h];rfl
theorem setS6 (x : Bool) : (w.setCell ⟨p,6,none⟩ (.bool x)).heap[p]? = some (objS { s with ext:=x } v):=by simp only [World.setCell,Array.getElem?_modify,h];rfl
theorem setS7 (x : Int) : (w.setCell ⟨p,7,none⟩ (.int .u32 x)).heap[p]? = some (objS { s with id:=x } v):=by simp only [World.setCell,Array.getElem?_modify,h];rfl
theorem setS8 (x : Bool) : (w.setCell ⟨p,8,none⟩ (.bool x)).heap[p]? = some (objS { s with rtr:=x } v):=by simp only [World.setCell,Array.getElem?_modify,h];rfl
theorem setS9 (x : Int) : (w.setCell ⟨p,9,none⟩ (.int .i64 x)).heap[p]? = some (objS { s with dlc:=x } v):=by simp only [World.setCell,Array.getElem?_modify,h];rfl
theorem setS10 (x : Value) : (w.setCell ⟨p,10,none⟩ x).heap[p]? = some (objS s x):=by simp only [World.setCell,Array.getElem?_modify,h];rfl
end
structure SAt (w0 w : World) (p : Nat) (S : Nat → Prop) (s : SS) (v : Value) : Prop where
 obj : w.heap[p]? = some (objS s v)
 row : Kd.R (Kd.int .u8) 5 w w0.heap.size S v s.data
structure EndS (w0 w : World) (p : Nat) (S : Nat → Prop) (s : SS) (e : Ending) (w' : World) : Prop where
 ret : e = .returned (.tuple #[])
 at_ : ∃ v,SAt w0 w' p S s v
 tch : Tch w w' (fun k => k = p ∨ S k)
structure SIn (w0 w : World) (p : Nat) (S : Nat → Prop) (s : SS) (v : Value) : Prop where
 obj : w.heap[p]? = some (objS s v)
 row : Kd.R (Kd.int .u8) 5 w w0.heap.size S v s.data
 below : Below w0.heap.size w0 w
 fresh : ∀ k,w.heap.size ≤ k → S k
theorem SIn.put {w0 w : World} {p : Nat} {S : Nat → Prop} {s : SS} {v : Value} (h : SIn w0 w p S s v) (hS : ¬ S p) (hpl : w0.heap.size ≤ p) {j : Nat} {u : Value} {s' : SS} (ho : (w.setCell ⟨p,j,none⟩ u).heap[p]? = some (objS s' v)) (hd : s'.data = s.data) : SIn w0 (w.setCell ⟨p,j,none⟩ u) p S s' v :=
 ⟨ho,by rw [hd];exact Kd.R_step h.row (fun k hk _ => Below.heap_setCell _ _ _ k (fun e => hS ((show k = p from e) ▸ hk))),h.below.setCell hpl _,fun k hk => h.fresh k (by simpa [World.setCell] using hk)⟩
theorem row_setS {w w0 : World} {p : Nat} {S : Nat → Prop} {v : Value} {l : List Int} (h : Kd.R (Kd.int .u8) 5 w w0.heap.size S v l) (hS : ¬ S p) (j : Nat) (u : Value) : Kd.R (Kd.int .u8) 5 (w.setCell ⟨p,j,none⟩ u) w0.heap.size S v l :=
 Kd.R_step h (fun k hk _ => Below.heap_setCell _ _ _ k (fun e => hS ((show k = p from e) ▸ hk)))
structure S9At (w0 w w1 : World) (p : Nat) (S : Nat → Prop) (s : SS) (d : List Int) (m g c1 : Nat) (v1 : Value) : Prop where
 obj : w1.heap[p]? = some (objS s v1)
 row : Kd.R (Kd.int .u8) 5 w1 w0.heap.size S (.slice (some ⟨g,0,none⟩) (m + 1) c1) d
 len : d.length = m + 1
 tch : Tch w w1 (fun k => k = p ∨ S k)
 own : S g
theorem S9At.facts {w0 w w1 : World} {p : Nat} {S : Nat → Prop} {s : SS} {d : List Int} {m g c1 : Nat} {v1 : Value} (h : S9At w0 w w1 p S s d m g c1 v1) (hS : ¬ S p) (hm : m < 1000) :
  g ≠ p ∧ p ≠ g ∧ ((0 ≤ (m : Int)) = True) ∧ (((m : Int) < ((m + 1 : Nat) : Int)) = True) ∧ w1.cell? ⟨g,m,none⟩ = some (.int .u8 (rd d (m : Int))) ∧ w1.frozen? ⟨g,m,none⟩ = false ∧ w1.cell? ⟨p,10,none⟩ = some v1 ∧ w1.frozen? ⟨p,10,none⟩ = false:=by
 have hgp : g ≠ p:=fun e => hS (e ▸ h.own)
 obtain ⟨hx,hf⟩:=Kd.R_celln 0 h.row (m : Int) (by omega) (by omega)
 rw [Int.toNat_natCast] at hx hf
 exact ⟨hgp,fun e => hgp e.symm,eq_true (by omega),eq_true (by omega),hx,hf,cS10 h.obj,fS h.obj 10⟩
theorem s9_append {w0 w w1 : World} {S : Nat → Prop} {p : Nat} {s : SS} {d : List Int} {v v1 : Value} (hp : w.heap[p]? = some (objS s v)) (hv : Kd.R (Kd.int .u8) 5 w w0.heap.size S v d) (hS : ¬ S p)
  (ho : Kd.R (Kd.int .u8) 5 w1 w0.heap.size S v1 (d ++ [0])) (hg : w.grownBy w1 v.ownBlock) : ∃ (g c1 : Nat),v1 = .slice (some ⟨g,0,none⟩) (d.length + 1) c1 ∧ S9At w0 w w1 p S s (d ++ [0]) d.length g c1 v:=by
 obtain ⟨g,c1,e1, -, -, -, -⟩:=Kd.R_form ho (by simp)
 subst e1
 have hl : (d ++ [0]).length = d.length + 1:=by simp
 rw [hl] at ho ⊢
 exact ⟨g,c1,rfl,blk_grown hp hg (fun e => hS (hv.1 p e.symm)),ho,hl,(Tch.refl _ _).grown hg (fun k hk => .inl (.inr (hv.1 k hk))),ho.1 g rfl⟩
theorem s9_same {w0 w : World} {S : Nat → Prop} {p : Nat} {s : SS} {d : List Int} {v : Value} (hp : w.heap[p]? = some (objS s v)) (hv : Kd.R (Kd.int .u8) 5 w w0.heap.size S v d) {m : Nat} (hm : d.length = m + 1) : ∃ (g c1 : Nat),v = .slice (some ⟨g,0,none⟩) (m + 1) c1 ∧ S9At w0 w w p S s d m g c1 v:=by
 obtain ⟨g,c1,e1, -, -, -, -⟩:=Kd.R_form hv (by omega)
 subst e1
 rw [hm] at hv ⊢
 exact ⟨g,c1,rfl,by rw [← hm];rw [hm] at hp ⊢;exact hp,hv,hm,Tch.refl _ _,hv.1 g rfl⟩
theorem s9_mid {w0 w w1 : World} {p : Nat} {S : Nat → Prop} {s : SS} {d : List Int} {m g c1 : Nat} {v1 V : Value} (h : S9At w0 w w1 p S s d m g c1 v1) (hS : ¬ S p) : S9At w0 w (w1.setCell ⟨p,10,none⟩ V) p S s d m g c1 V :=
 ⟨setS10 h.obj V,Kd.R_step h.row (fun k hk _ => Below.heap_setCell _ _ _ k (fun e => hS ((show k = p from e) ▸ hk))),h.len,h.tch.setCell (.inl (.inl rfl)) _,h.own⟩
theorem s9_draw {w0 w w1 : World} {p : Nat} {S : Nat → Prop} {s : SS} {d : List Int} {m g c1 : Nat} {v1 : Value} (h : S9At w0 w w1 p S s d m g c1 v1) (n : Nat) : S9At w0 w (w1.drewN n) p S s d m g c1 v1 :=
 ⟨h.obj,Kd.R_step h.row (fun _ _ _ => rfl),h.len,h.tch.drewN n,h.own⟩
theorem s9_put {w0 w w1 : World} {p : Nat} {S : Nat → Prop} {s : SS} {d : List Int} {m g c1 : Nat} (h : S9At w0 w w1 p S s d m g c1 (.slice (some ⟨g,0,none⟩) (m + 1) c1)) (hS : ¬ S p) (x : Int) : S9At w0 w (w1.setCell ⟨g,m,none⟩ (.int .u8 x)) p S s (d.set m x) m g c1 (.slice (some ⟨g,0,none⟩) (m + 1) c1):=by
 obtain ⟨h1,h2⟩:=Kd.R_putg h.row (m : Int) x
 rw [Int.toNat_natCast] at h1 h2
 exact ⟨blk_grown h.obj h2 (fun e => hS (by injection e with e;exact e ▸ h.own)),h1,by rw [List.length_set];exact h.len,h.tch.setCell (.inl (.inr h.own)) _,h.own⟩
theorem infoU8s : (Tryd.prog.info? 5).map (fun i => (i.zero,i.size,i.bytes)) = some (some (.int .u8 0),1,1):=by kernel_rfl
structure SOk (s : SS) : Prop where
 f0 : 1 ≤ s.field
 f1 : s.field ≤ 14
 l0 : 1 ≤ s.left
 l1 : s.left ≤ 64
 d0 : 0 ≤ s.dlc
 d1 : s.dlc ≤ 15
 i0 : 0 ≤ s.id
 i1 : s.id < 536870912
 a0 : 0 ≤ s.acc
 a1 : s.acc < 32768
 ne : s.field = 9 → s.left % 8 ≠ 0 → s.data ≠ []
 by_ : ∀ x ∈ s.data,0 ≤ x ∧ x < 256
 dl : s.data.length ≤ 8
def dataS (s : SS) (b : Int) : List Int:=let d:=if s.left % 8 = 0 then s.data ++ [0] else s.data;d.set (d.length - 1) ((2 * rd d ((d.length : Int) - 1) + b) % 256)
def takeS (s : SS) (b : Int) : SS :=
 if s.field = 2 ∨ s.field = 5 then { s with id:=(2 * s.id + b) % 536870912 }
 else if s.field = 3 ∨ s.field = 6 then { s with rtr:=b == 1 }
 else if s.field = 4 then (if b = 1 then { s with ext:=true,rtr:=false } else { s with ext:=false })
 else if s.field = 8 then { s with dlc:=(2 * s.dlc + b) % 16 }
 else if s.field = 9 then { s with data:=dataS s b }
 else if s.field = 10 then { s with acc:=(2 * s.acc + b) % 32768 } else s
theorem nat_or_bitS (m b : Nat) (hb : b ≤ 1) : (m * 2) ||| b = 2 * m + b:=by
 have:=Nat.two_pow_add_eq_or_of_lt (i:=1) (b:=b) (by omega) m
 rw [Nat.pow_one] at this
 rw [Nat.mul_comm m 2, ← this]
theorem and_low (m k : Nat) : m &&& (2 ^ k - 1) = m % 2 ^ k:=Nat.and_two_pow_sub_one_eq_mod m k
theorem or_and_i64 (x b : Int) (k : Nat) (hk : k ≤ 30) (h0 : 0 ≤ x) (h1 : x < 1000000000) (hb : b = 0 ∨ b = 1) : Go.bits .and .i64 (Go.bits .or .i64 (wrap64 (x * 2)) b) ((2 ^ k - 1 : Nat) : Int) = (2 * x + b) % ((2 ^ k : Nat) : Int):=by
 obtain ⟨n,rfl⟩ : ∃ n : Nat,x = (n : Int):=⟨x.toNat,by omega⟩
 obtain ⟨m,rfl,hm⟩ : ∃ m : Nat,b = (m : Int) ∧ m ≤ 1:=⟨b.toNat,by omega,by omega⟩
 have e : wrap64 ((n : Int) * 2) = ((n * 2 : Nat) : Int):=by unfold wrap64;omega
 have hp : (2 : Nat) ^ 62 ≤ 2 ^ IntKind.i64.bits:=Nat.pow_le_pow_right (by decide) (by decide)
 have hk2 : 2 ^ k ≤ 2 ^ 30:=Nat.pow_le_pow_right (by decide) hk
 have small : ∀ y : Nat,y < 2 ^ 62 → y % 2 ^ IntKind.i64.bits = y:=fun y hy => Nat.mod_eq_of_lt (Nat.lt_of_lt_of_le hy hp)
 have hw : ∀ y : Nat,y < 2 ^ 62 → IntKind.i64.wrap ((y : Nat) : Int) = (y : Int):=fun y hy => by rw [IntKind.wrap_i64];omega
 rw [e]
 have e1 : Go.bits .or .i64 ((n * 2 : Nat) : Int) (m : Int) = ((2 * n + m : Nat) : Int):=by
  simp only [Go.bits,BitVec.ofInt_natCast,BitVec.toNat_or,BitVec.toNat_ofNat,small (n * 2) (by omega),small m (by omega)]
  rw [nat_or_bitS n m hm,hw _ (by omega)]
 rw [e1]
 have e2 : Go.bits .and .i64 ((2 * n + m : Nat) : Int) ((2 ^ k - 1 : Nat) : Int) = (((2 * n + m) % 2 ^ k : Nat) : Int):=by
  simp only [Go.bits,BitVec.ofInt_natCast,BitVec.toNat_and,BitVec.toNat_ofNat,small (2 * n + m) (by omega),small (2 ^ k - 1) (by omega)]
  rw [and_low,hw _ (Nat.lt_of_le_of_lt (Nat.mod_le _ _) (by omega))]
 rw [e2]
 push_cast
 rfl
theorem or_and_u32 (x b : Int) (h0 : 0 ≤ x) (h1 : x < 536870912) (hb : b = 0 ∨ b = 1) : Go.bits .and .u32 (Go.bits .or .u32 ((x * 2) % 4294967296) b) 536870911 = (2 * x + b) % 536870912:=by
 obtain ⟨n,rfl⟩ : ∃ n : Nat,x = (n : Int):=⟨x.toNat,by omega⟩
 obtain ⟨m,rfl,hm⟩ : ∃ m : Nat,b = (m : Int) ∧ m ≤ 1:=⟨b.toNat,by omega,by omega⟩
 have e : ((n : Int) * 2) % 4294967296 = ((n * 2 : Nat) : Int):=by omega
 have small : ∀ y : Nat,y < 4294967296 → y % 2 ^ IntKind.u32.bits = y:=fun y hy => Nat.mod_eq_of_lt hy
 have hw : ∀ y : Nat,y < 4294967296 → IntKind.u32.wrap ((y : Nat) : Int) = (y : Int):=fun y hy => by rw [IntKind.wrap_u32];omega
 rw [e]
 have e1 : Go.bits .or .u32 ((n * 2 : Nat) : Int) (m : Int) = ((2 * n + m : Nat) : Int):=by
  simp only [Go.bits,BitVec.ofInt_natCast,BitVec.toNat_or,BitVec.toNat_ofNat,small (n * 2) (by omega),small m (by omega)]
  rw [nat_or_bitS n m hm,hw _ (by omega)]
 rw [e1]
 have e2 : Go.bits .and .u32 ((2 * n + m : Nat) : Int) ((2 ^ 29 - 1 : Nat) : Int) = (((2 * n + m) % 2 ^ 29 : Nat) : Int):=by
  simp only [Go.bits,BitVec.ofInt_natCast,BitVec.toNat_and,BitVec.toNat_ofNat,small (2 * n + m) (by omega),small (2 ^ 29 - 1) (by omega)]
  rw [and_low,hw _ (by omega)]
 have e3 : ((2 ^ 29 - 1 : Nat) : Int) = 536870911:=rfl
 rw [e3] at e2
 rw [e2]
 omega
theorem or_u8S (x b : Int) (h0 : 0 ≤ x) (hb : b = 0 ∨ b = 1) : Go.bits .or .u8 ((x * 2) % 256) b = (2 * x + b) % 256:=by
 obtain ⟨n,rfl⟩ : ∃ n : Nat,x = (n : Int):=⟨x.toNat,by omega⟩
 obtain ⟨m,rfl,hm⟩ : ∃ m : Nat,b = (m : Int) ∧ m ≤ 1:=⟨b.toNat,by omega,by omega⟩
 have e : ((n : Int) * 2) % 256 = (((n % 128) * 2 : Nat) : Int):=by omega
 have ha' : ((n % 128) * 2) % 2 ^ IntKind.u8.bits = (n % 128) * 2:=Nat.mod_eq_of_lt (show (n % 128) * 2 < 256 by omega)
 have hb' : m % 2 ^ IntKind.u8.bits = m:=Nat.mod_eq_of_lt (show m < 256 by omega)
 rw [e]
 simp only [Go.bits,BitVec.ofInt_natCast,BitVec.toNat_or,BitVec.toNat_ofNat,ha',hb']
 rw [nat_or_bitS _ m hm,IntKind.wrap_u8]
 omega
theorem rd_rangeS {l : List Int} (h : ∀ x ∈ l,0 ≤ x ∧ x < 256) (i : Int) : 0 ≤ rd l i:=by
 unfold rd
 rw [List.getD_eq_getElem?_getD]
 cases e : l[i.toNat]? with
 | none => exact Int.le_refl 0
 | some y => exact (h y (List.mem_of_getElem? e)).1
theorem data9_eq (s : SS) (b : Int) (hb : b = 0 ∨ b = 1) (d : List Int) (m : Nat) (hd : d = if s.left % 8 = 0 then s.data ++ [0] else s.data) (hl : d.length = m + 1) (hr : 0 ≤ rd d (m : Int)) :
  dataS s b = d.set m (Go.bits .or .u8 (rd d (m : Int) * 2 % 256) b):=by
 unfold dataS
 simp only []
 rw [← hd,hl,show ((m + 1 : Nat) : Int) - 1 = (m : Int) by omega,show m + 1 - 1 = m by omega,or_u8S _ b hr hb]
end Go.Proofs.YtdoclpgciadjaaaDoor.P

namespace Go.Proofs.YtdoclpgciadjaaaDoor.P
open Go.RowKit Go.Proofs.YtdoclpgciadjaaaDoorW.PrintWords Go.Proofs.YtdoclpgciadjaaaDoorW.PrintLast Go.Proofs.YtdoclpgciadjaaaDoorW.PrintMore
set_option linter.unusedVariables false
set_option linter.unusedSimpArgs false
def impl_fieldSize.f (a0 : Int) (a1_0 : Bool) (a1_1 : Int) (a1_2 : Bool) (a1_3 : Int) (l1_4 : List Int) : Option (Int):=if a0 = 7 ∧ a1_0 = true then some 2 else if a0 = 9 then some (wrap64 (8 * (if a1_3 < 8 then a1_3 else 8))) else if 0 ≤ a0 ∧ a0 < 15 then some (rowsL.getD (a0.toNat * 2) 0) else none
theorem impl_fieldSize.calls (a0 : Int) (a1_0 : Bool) (a1_1 : Int) (a1_2 : Bool) (a1_3 : Int) (A1_4 : Option Addr) (c1_4 : Nat) (l1_4 : List Int) (r : Int) (w : World) (hr1_4 : Kd.C (Kd.int .u8) w A1_4 l1_4.length l1_4) (hc1_4 : l1_4.length ≤ c1_4) (h : impl_fieldSize.f a0 a1_0 a1_1 a1_2 a1_3 l1_4 = some r) (hG : LaidRows w) :
  Calls Tryd.prog 33 #[.int .i64 a0, .agg #[.bool a1_0, .int .u32 a1_1, .bool a1_2, .int .i64 a1_3, .slice A1_4 l1_4.length c1_4]] w fun e w' => e = .returned (.int .i64 r) ∧ Below w.heap.size w w':=by
 unfold impl_fieldSize.f at h
 clear hr1_4 hc1_4
 by_cases c7 : a0 = 7
 ·subst c7
  cases a1_0 with
  | true =>
   rw [if_pos ⟨rfl,rfl⟩] at h
   obtain rfl:=Option.some.inj h
   clear h
   go_enter Tryd.func33,Tryd.ntmps33
   go_wp2_with (fail)
   go_ret
   exact ⟨rfl,(Below.refl _ _).alloc (Nat.le_refl _) _⟩
  | false =>
   rw [if_neg (by simp),if_neg (by decide),if_pos (by decide)] at h
   obtain rfl:=Option.some.inj h
   clear h
   have hcell : w.cell? ⟨0,14,none⟩ = some (.int .i64 1):=hG.at_ 14 (by decide)
   have h0:=hG.pos
   clear hG
   go_enter Tryd.func33,Tryd.ntmps33
   go_wp2_with (fail)
   go_ret
   exact ⟨rfl,(Below.refl _ _).alloc (Nat.le_refl _) _⟩
 rw [if_neg (fun h => c7 h.1)] at h
 have b7 : (a0 == 7) = false:=beq_eq_false_iff_ne.mpr c7
 by_cases c9 : a0 = 9
 ·subst c9
  rw [if_pos rfl] at h
  obtain rfl:=Option.some.inj h
  clear h b7 hG c7
  by_cases cl : a1_3 < 8
  ·rw [if_pos cl]
   go_enter Tryd.func33,Tryd.ntmps33
   go_wp2_with (fail)
   all_goals
    go_ret
    exact ⟨by first | rfl | omega,(Below.refl _ _).alloc (Nat.le_refl _) _⟩
  by_cases ce : a1_3 = 8
  ·subst ce
   rw [if_neg (by decide),show wrap64 (8 * 8) = 64 by unfold wrap64;omega]
   go_enter Tryd.func33,Tryd.ntmps33
   go_wp2_with (fail)
   all_goals
    go_ret
    exact ⟨rfl,(Below.refl _ _).alloc (Nat.le_refl _) _⟩
  have cg : 8 < a1_3:=by omega
  rw [if_neg cl,show wrap64 (8 * 8) = 64 by unfold wrap64;omega]
  clear cl ce
  go_enter Tryd.func33,Tryd.ntmps33
  go_wp2_with (fail)
  all_goals
   go_ret
   exact ⟨by first | rfl | omega,(Below.refl _ _).alloc (Nat.le_refl _) _⟩
 have b9 : (a0 == 9) = false:=beq_eq_false_iff_ne.mpr c9
 rw [if_neg c9] at h
 by_cases cr : 0 ≤ a0 ∧ a0 < 15
 ·rw [if_pos cr] at h
  obtain rfl:=Option.some.inj h
  obtain ⟨n,rfl⟩ : ∃ n : Nat,a0 = (n : Int):=⟨a0.toNat,by omega⟩
  have hcell : w.cell? ⟨0,n * 2,none⟩ = some (.int .i64 (rowsL.getD (n * 2) 0)):=hG.at_ (n * 2) (by omega)
  have p0 : (0 ≤ (n : Int)) = True:=eq_true (by omega)
  have q0 : ((n : Int) < 15) = True:=eq_true (by omega)
  have h0:=hG.pos
  rw [Int.toNat_natCast]
  obtain ⟨R,hR⟩ : ∃ R,rowsL.getD (n * 2) 0 = R:=⟨_,rfl⟩
  rw [hR] at hcell ⊢
  clear h cr hG c7 c9 hR
  go_enter Tryd.func33,Tryd.ntmps33
  go_wp2_with (fail)
  go_ret
  exact ⟨rfl,(Below.refl _ _).alloc (Nat.le_refl _) _⟩
 ·rw [if_neg cr] at h
  cases h
end Go.Proofs.YtdoclpgciadjaaaDoor.P
