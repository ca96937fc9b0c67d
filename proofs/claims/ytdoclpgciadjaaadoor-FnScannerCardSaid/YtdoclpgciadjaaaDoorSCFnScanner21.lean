/- Texts of the proof of CFnScanner, joined. -/
import Derived.Test.YtdoclpgciadjaaaDoorProg
import Derived.Below
import Derived.Deep.Draws
import Derived.Deep.AppendLies
import Derived.Maps.AppendAt
import Derived.OwnWalk
import Derived.Laws.BytesArg
import Derived.Laws.MakeOwn
import Derived.Laws.OwnMore
import Derived.Deep.OwnRows
import Derived.Tactics
import Derived.Lib.ConvBytes
import Derived.Laws.Slices
import Derived.WalkKit
import Derived.KernelRfl
import Derived.RowKit3
import Derived.Deep.LoopGhost
import Derived.Deep.QuietTactic
import Derived.BigQuiet
import Derived.WideLaws
import Derived.Deep.DeepCutAuto
import Derived.Deep.CutBlock
import Derived.Deep.RegionHeld3
import Derived.Laws.Rows
import Derived.Lib.AppendStr
import Derived.ArgAppend
import Derived.Laws.IdiomCopy
import Derived.OrdersHeld
import Derived.Laws.BitsLemmas
import Derived.RowKit
import Derived.Test.YtdoclpgciadjaaaDoorSCFnScanner0
import Derived.Test.YtdoclpgciadjaaaDoorSCFnScanner1
import Derived.Test.YtdoclpgciadjaaaDoorSCFnScanner2
import Derived.Test.YtdoclpgciadjaaaDoorSCFnScanner3
import Derived.Test.YtdoclpgciadjaaaDoorSCFnScanner4
import Derived.Test.YtdoclpgciadjaaaDoorSCFnScanner5
import Derived.Test.YtdoclpgciadjaaaDoorSCFnScanner6
import Derived.Test.YtdoclpgciadjaaaDoorSCFnScanner7
import Derived.Test.YtdoclpgciadjaaaDoorSCFnScanner8
import Derived.Test.YtdoclpgciadjaaaDoorSCFnScanner9
import Derived.Test.YtdoclpgciadjaaaDoorSCFnScanner10
import Derived.Test.YtdoclpgciadjaaaDoorSCFnScanner11
import Derived.Test.YtdoclpgciadjaaaDoorSCFnScanner12
import Derived.Test.YtdoclpgciadjaaaDoorSCFnScanner13
import Derived.Test.YtdoclpgciadjaaaDoorSCFnScanner14
import Derived.Test.YtdoclpgciadjaaaDoorSCFnScanner15
import Derived.Test.YtdoclpgciadjaaaDoorSCFnScanner16
import Derived.Test.YtdoclpgciadjaaaDoorSCFnScanner17
import Derived.Test.YtdoclpgciadjaaaDoorSCFnScanner18
import Derived.Test.YtdoclpgciadjaaaDoorSCFnScanner19
import Derived.Test.YtdoclpgciadjaaaDoorSCFnScanner20
import Derived.Lib.Hide
import Derived.Laws.RangeAny
import Derived.Lib.OthersKept
import Derived.Test.YtdoclpgciadjaaaDoorRows
import Derived.ProofKit
import Derived.LaidMore
import Derived.OpenShut
import Derived.ChangeVars
import Derived.Stop.Joined
import Derived.StillTailTactics
import Derived.Deep.RegionWith
import Derived.Deep.MidRow
namespace Go.Proofs.YtdoclpgciadjaaaDoor.P
open Go.RowKit Go.Proofs.YtdoclpgciadjaaaDoorW.PrintWords Go.Proofs.YtdoclpgciadjaaaDoorW.PrintLast Go.Proofs.YtdoclpgciadjaaaDoorW.PrintMore
set_option linter.unusedVariables false
set_option linter.unusedSimpArgs false
def errW : Option Int → Value
 | none => .nilIface
 | some c => .iface 0 (.int .i64 c)
theorem errW_none : errW none = .nilIface:=rfl
theorem errW_some (c : Int) : errW (some c) = .iface 0 (.int .i64 c):=rfl
theorem info5 : (Tryd.prog.info? 5).map (fun i => (i.zero,i.size,i.bytes)) = some (some (.int .u8 0),1,1):=by kernel_rfl
end Go.Proofs.YtdoclpgciadjaaaDoor.P
namespace Go.Proofs.YtdoclpgciadjaaaDoor.P
open Go Go.RowKit Go.Proofs.YtdoclpgciadjaaaDoorW.PrintWords
set_option linter.unusedVariables false
def isBit (c : UInt8) : Bool:=c == 48 || c == 49
def isBits (s : ByteArray) : Bool:=s.data.toList.all isBit
def BitsTo (s : ByteArray) (pos : Nat) : Prop := ∀ i (h : i < s.size),i < pos → isBit (s[i]'h) = true
theorem bitsTo_zero (s : ByteArray) : BitsTo s 0:=fun i _ h => absurd h (Nat.not_lt_zero i)
theorem bitsTo_succ {s : ByteArray} {pos : Nat} (h : BitsTo s pos) (hp : pos < s.size) (hb : isBit (s[pos]'hp) = true) : BitsTo s (pos + 1):=by
 intro i hi hlt
 by_cases e : i = pos
 ·subst e;exact hb
 ·exact h i hi (by omega)
theorem isBits_iff (s : ByteArray) : isBits s = true ↔ BitsTo s s.size:=by
 unfold isBits BitsTo
 rw [List.all_eq_true]
 constructor
 ·intro h i hi _
  exact h _ (by show s.data[i] ∈ _;simp)
 ·intro h x hx
  obtain ⟨i,hi,rfl⟩:=List.getElem_of_mem hx
  have hs : i < s.size:=by simpa using hi
  have h2:=h i hs hs
  rw [Array.getElem_toList]
  exact h2
theorem isBits_of (s : ByteArray) {pos : Nat} (hb : BitsTo s pos) (hp : ¬ pos < s.size) : isBits s = true :=
 (isBits_iff s).2 fun i hi _ => hb i hi (by omega)
theorem isBits_not (s : ByteArray) {pos : Nat} (hp : pos < s.size) (hn : isBit (s[pos]'hp) = false) : isBits s = false:=by
 cases h : isBits s with
 | false => rfl
 | true => have:=(isBits_iff s).1 h pos hp hp;rw [this] at hn;cases hn
theorem isBits_at {s : ByteArray} (h : isBits s = true) {pos : Nat} (hp : pos < s.size) : isBit (s[pos]'hp) = true:=(isBits_iff s).1 h pos hp hp
theorem isBit_cases {c : UInt8} (h : isBit c = true) : c = 48 ∨ c = 49:=by
 unfold isBit at h;simpa using h
theorem not_bit {c : UInt8} (h : isBit c = false) : c.toNat ≠ 48 ∧ c.toNat ≠ 49:=by
 unfold isBit at h
 rw [Bool.or_eq_false_iff] at h
 obtain ⟨h1,h2⟩:=h
 rw [beq_eq_false_iff_ne] at h1 h2
 exact ⟨fun e => h1 (UInt8.toNat_inj.1 e),fun e => h2 (UInt8.toNat_inj.1 e)⟩
theorem decode_notBit (s : ByteArray) (pos : Nat) (hp : pos < s.size) (hn : isBit (s[pos]'hp) = false) : ((((Utf8.decode s pos).1 : Nat) : Int) == 48) = false ∧ ((((Utf8.decode s pos).1 : Nat) : Int) == 49) = false:=by
 obtain ⟨h1,h2⟩:=not_bit hn
 by_cases ha : (s[pos]'hp).toNat < 128
 ·rw [decode_ascii s pos hp ha]
  constructor <;> rw [beq_eq_false_iff_ne] <;> simp only <;> omega
 ·have:=(decode_high s pos hp (by omega)).1
  constructor <;> rw [beq_eq_false_iff_ne] <;> omega
theorem next_bit {P : Program} (w : World) (s : ByteArray) (pos : Nat) (ty : TypeId) (hp : pos < s.size) {b : Nat} (hb : (s[pos]'hp).toNat = b) (hlt : b < 128) :
  (Instr.next (.pointer (some ⟨w.heap.size,0,none⟩)) true ty).run P (w.iter s pos) = .ok (.tuple #[.bool true, .int .i64 pos, .int .i32 b]) (w.iter s (pos + 1)):=by
 rw [run_next_ascii w s pos ty hp (by omega),hb]
theorem below_iter (w : World) (s : ByteArray) (pos : Nat) : Below w.heap.size w (w.iter s pos):=(Below.refl _ _).alloc (Nat.le_refl _) _
def crcI (r b : Int) : Int:=if (Go.bits .xor .i64 (Go.bits .and .i64 (r / 16384) 1) b) = 1 then Go.bits .xor .i64 (Go.bits .and .i64 (wrap64 (r * 2)) 32767) 17817 else Go.bits .and .i64 (wrap64 (r * 2)) 32767
def foldTo {α : Type} (f : α → Int → α) (z : α) (s : ByteArray) (pos : Nat) : α:=((bytesOf s).take pos).foldl f z
theorem foldTo_zero {α : Type} (f : α → Int → α) (z : α) (s : ByteArray) : foldTo f z s 0 = z:=by simp [foldTo]
theorem foldTo_succ {α : Type} (f : α → Int → α) (z : α) (s : ByteArray) (pos : Nat) (hp : pos < s.size) {b : Nat} (hb : (s[pos]'hp).toNat = b) : foldTo f z s (pos + 1) = f (foldTo f z s pos) b:=by
 have hl : pos < (bytesOf s).length:=by rw [bytesOf_length];exact hp
 have he : (bytesOf s)[pos]'hl = (b : Int):=by
  have h2 : (bytesOf s)[pos]? = some (b : Int):=by
   unfold bytesOf
   rw [List.getElem?_map,Array.getElem?_toList,Array.getElem?_eq_getElem (show pos < s.data.size from hp), ← hb]
   rfl
  rw [List.getElem?_eq_getElem hl] at h2
  exact Option.some.inj h2
 unfold foldTo
 rw [List.take_succ_eq_append_getElem hl,List.foldl_append,he]
 rfl
theorem foldTo_end {α : Type} (f : α → Int → α) (z : α) (s : ByteArray) (pos : Nat) (hp : ¬ pos < s.size) : foldTo f z s pos = (bytesOf s).foldl f z:=by
 unfold foldTo
 rw [List.take_of_length_le (by rw [bytesOf_length];omega)]
def stuffStep (st : List Int × Int × Int) (c : Int) : List Int × Int × Int :=
 if (if c = st.2.2 then st.2.1 + 1 else 1) = 5 then (st.1 ++ [c] ++ [97 - c],1,97 - c) else (st.1 ++ [c],(if c = st.2.2 then st.2.1 + 1 else 1),c)
def stuffTo (s : ByteArray) (pos : Nat) : List Int × Int × Int:=foldTo stuffStep ([],0,120) s pos
def stuffL (l : List Int) : List Int:=(l.foldl stuffStep ([],0,120)).1
theorem stuffTo_zero (s : ByteArray) : stuffTo s 0 = ([],0,120):=foldTo_zero _ _ _
theorem stuffTo_succ (s : ByteArray) (pos : Nat) (hp : pos < s.size) {b : Nat} (hb : (s[pos]'hp).toNat = b) : stuffTo s (pos + 1) = stuffStep (stuffTo s pos) b:=foldTo_succ _ _ _ _ hp hb
theorem stuffTo_end (s : ByteArray) (pos : Nat) (hp : ¬ pos < s.size) : (stuffTo s pos).1 = stuffL (bytesOf s):=by
 unfold stuffTo stuffL;rw [foldTo_end _ _ _ _ hp]
theorem foldTo_over {α : Type} (f : α → Int → α) (z : α) (s : ByteArray) (pos : Nat) (hp : ¬ pos < s.size) : foldTo f z s (pos + 1) = foldTo f z s pos:=by
 rw [foldTo_end _ _ _ _ hp,foldTo_end _ _ _ _ (by omega)]
theorem foldTo_inv {α : Type} (f : α → Int → α) (z : α) (s : ByteArray) (I : Nat → α → Prop) (h0 : I 0 z) (h1 : ∀ n a c,I n a → I (n + 1) (f a c)) (hm : ∀ n a,I n a → I (n + 1) a) (pos : Nat) : I pos (foldTo f z s pos):=by
 induction pos with
 | zero => rw [foldTo_zero];exact h0
 | succ n ih =>
  by_cases hp : n < s.size
  ·rw [foldTo_succ f z s n hp rfl];exact h1 _ _ _ ih
  ·rw [foldTo_over f z s n hp];exact hm _ _ ih
theorem stuffTo_bounds (s : ByteArray) (pos : Nat) : (stuffTo s pos).1.length ≤ 2 * pos ∧ 0 ≤ (stuffTo s pos).2.1 ∧ (stuffTo s pos).2.1 ≤ pos:=by
 refine foldTo_inv stuffStep ([],0,120) s (fun n a => a.1.length ≤ 2 * n ∧ 0 ≤ a.2.1 ∧ a.2.1 ≤ n) ⟨by simp,by simp,by simp⟩ (fun n a c h => ?_) (fun n a h => ⟨by omega,h.2.1,by omega⟩) pos
 obtain ⟨h1,h2,h3⟩:=h
 have hr : 0 ≤ (if c = a.2.2 then a.2.1 + 1 else 1) ∧ (if c = a.2.2 then a.2.1 + 1 else 1) ≤ (n : Int) + 1:=by split <;> omega
 unfold stuffStep
 generalize (if c = a.2.2 then a.2.1 + 1 else 1) = run at *
 split
 ·exact ⟨by simp;omega,by simp,by simp;omega⟩
 ·exact ⟨by simp;omega,hr.1,by have:=hr.2;simp only [];omega⟩
def destuffL : List Int → Int → Int → Int → List Int → List Int × Int
 | [],_,_,_,out => (out, -1)
 | c :: l,i,run,last,out => if run = 5 then (if c = last then (out,i) else destuffL l (i + 1) 1 c out) else destuffL l (i + 1) (if c = last then run + 1 else 1) c (out ++ [c])
theorem drop_cons (s : ByteArray) (pos : Nat) (hp : pos < s.size) {b : Nat} (hb : (s[pos]'hp).toNat = b) : (bytesOf s).drop pos = (b : Int) :: (bytesOf s).drop (pos + 1):=by
 have hl : pos < (bytesOf s).length:=by rw [bytesOf_length];exact hp
 rw [List.drop_eq_getElem_cons hl]
 congr 1
 have h2 : (bytesOf s)[pos]? = some (b : Int):=by
  unfold bytesOf
  rw [List.getElem?_map,Array.getElem?_toList,Array.getElem?_eq_getElem (show pos < s.data.size from hp), ← hb]
  rfl
 rw [List.getElem?_eq_getElem hl] at h2
 exact Option.some.inj h2
theorem drop_end (s : ByteArray) (pos : Nat) (hp : ¬ pos < s.size) : (bytesOf s).drop pos = []:=List.drop_eq_nil_of_le (by rw [bytesOf_length];omega)
structure DesAt (s : ByteArray) (R : List Int × Int) (pos : Nat) (out : List Int) (run last : Int) : Prop where
 eq : destuffL ((bytesOf s).drop pos) pos run last out = R
 len : out.length ≤ pos
 lo : 0 ≤ run
 hi : run ≤ 5
theorem DesAt.zero (s : ByteArray) : DesAt s (destuffL (bytesOf s) 0 0 120 []) 0 [] 0 120:=⟨by rw [List.drop_zero];rfl,by simp,by omega,by omega⟩
theorem DesAt.step {s : ByteArray} {R : List Int × Int} {pos : Nat} {out : List Int} {run last : Int} (h : DesAt s R pos out run last) (hp : pos < s.size) {b : Nat} (hb : (s[pos]'hp).toNat = b) (hr : run ≠ 5) : DesAt s R (pos + 1) (out ++ [(b : Int)]) (if (b : Int) = last then run + 1 else 1) b:=by
 have e:=h.eq
 have h1:=h.len;have h2:=h.lo;have h3:=h.hi
 rw [drop_cons s pos hp hb,destuffL,if_neg hr] at e
 refine ⟨e,by rw [List.length_append];simp;omega, ?_, ?_⟩
 ·split <;> omega
 ·split <;> omega
theorem DesAt.skip {s : ByteArray} {R : List Int × Int} {pos : Nat} {out : List Int} {last : Int} (h : DesAt s R pos out 5 last) (hp : pos < s.size) {b : Nat} (hb : (s[pos]'hp).toNat = b) (hl : (b : Int) ≠ last) : DesAt s R (pos + 1) out 1 b:=by
 have e:=h.eq
 have h1:=h.len
 rw [drop_cons s pos hp hb,destuffL,if_pos rfl,if_neg hl] at e
 exact ⟨e,by omega,by omega,by omega⟩
theorem DesAt.stop {s : ByteArray} {R : List Int × Int} {pos : Nat} {out : List Int} {last : Int} (h : DesAt s R pos out 5 last) (hp : pos < s.size) {b : Nat} (hb : (s[pos]'hp).toNat = b) (hl : (b : Int) = last) : R = (out,(pos : Int)):=by
 have e:=h.eq
 rw [drop_cons s pos hp hb,destuffL,if_pos rfl,if_pos hl] at e
 exact e.symm
theorem DesAt.over {s : ByteArray} {R : List Int × Int} {pos : Nat} {out : List Int} {run last : Int} (h : DesAt s R pos out run last) (hp : ¬ pos < s.size) : R = (out, -1):=by
 have e:=h.eq
 rw [drop_end s pos hp,destuffL] at e
 exact e.symm
theorem infoU8 : (Tryd.prog.info? 5).map (fun i => (i.zero,i.size,i.bytes)) = some (some (.int .u8 0),1,1):=by kernel_rfl
theorem R_iterAt {α : Type} {d : Kd α} {e : Nat} {w : World} {base : Nat} {ok : Nat → Prop} {v : Value} {xs : List α} (h : d.R e w base ok v xs) {k : Nat} {s : ByteArray} {pos : Nat} (hk : w.heap[k]? = some (.stringIter s pos)) (pos' : Nat) :
  d.R e (w.iterAt k s pos') base ok v xs :=
 Kd.R_mono (Kd.R_move (Kd.R_bound h) (fun j hj => by
  obtain ⟨_,_,_,q,_,cells,hc⟩:=hj
  refine Lib.iterAt_other w k j s pos' ?_
  rintro rfl
  rw [hk] at hc
  cases hc)) (fun _ hj => hj.1)
theorem iter_new (w : World) (s : ByteArray) (pos : Nat) : (w.iter s pos).heap[w.heap.size]? = some (.stringIter s pos):=World.iter_heap w s pos
theorem next_bit_at {P : Program} (w : World) (k : Nat) (s : ByteArray) (pos : Nat) (ty : TypeId) (hk : w.heap[k]? = some (.stringIter s pos)) (hp : pos < s.size) {b : Nat} (hb : (s[pos]'hp).toNat = b) (hlt : b < 128) :
  (Instr.next (.pointer (some ⟨k,0,none⟩)) true ty).run P w = .ok (.tuple #[.bool true, .int .i64 pos, .int .i32 b]) (w.iterAt k s (pos + 1)):=by
 rw [Lib.run_next_ascii_at w k s pos ty hk hp (by omega),hb]
theorem below_bytes {B : Nat} {a w : World} (h : Below B a w) (hB : B ≤ w.heap.size) (e : TypeId) (s : ByteArray) : Below B a (Lib.bytesWorld w e s) :=
 h.trans ⟨rfl,rfl,rfl,by rw [Lib.bytesWorld_size];omega,fun j hj => Lib.bytesWorld_at_old w e s j (by omega)⟩
theorem bytes_C (w : World) (e : TypeId) (s : ByteArray) (hs : s.size ≤ 9223372036854775807) : Kd.C (Kd.int .u8) (Lib.bytesWorld w e s) (some ⟨w.heap.size,0,none⟩) s.size (bytesOf s):=by
 refine ⟨bytesOf_length s,hs,fun _ => ⟨_,rfl,fun j p hj => ⟨[.int .u8 p],rfl,rfl,fun i u hu => ?_⟩⟩⟩
 have hlt : j < s.size:=by have:=(List.getElem?_eq_some_iff.1 hj).1;rw [bytesOf_length] at this;exact this
 have hp : p = ((s.data.toList.getD j 0).toNat : Int):=by
  unfold bytesOf at hj
  rw [List.getElem?_map,Array.getElem?_toList,Array.getElem?_eq_getElem (show j < s.data.size from hlt)] at hj
  rw [List.getD_eq_getElem?_getD,Array.getElem?_toList,Array.getElem?_eq_getElem (show j < s.data.size from hlt)]
  exact (Option.some.inj hj).symm
 match i,hu with
 | 0,hu =>
  obtain rfl:=Option.some.inj hu
  show (Lib.bytesWorld w e s).cell? ((⟨w.heap.size,0,none⟩ : Addr).add (j * 1 + 0)) = _
  rw [add_plain,Nat.mul_one,Nat.add_zero,Lib.bytesWorld_cell w e s j hlt,hp]
theorem C_cell {k : IntKind} {w : World} {g n : Nat} {xs : List Int} (h : (Kd.int k).C w (some ⟨g,0,none⟩) n xs) (i : Nat) (hi : i < n) : w.cell? ⟨g,i,none⟩ = some (.int k (rd xs (i : Int))):=by
 obtain ⟨ad,e,hc⟩:=Kd.at_int h (i : Int) (by omega) (by omega)
 obtain rfl:=Option.some.inj e
 rw [add_plain] at hc
 exact hc
theorem C_block {k : IntKind} {w w' : World} {g n : Nat} {xs : List Int} (h : (Kd.int k).C w (some ⟨g,0,none⟩) n xs) (hb : w'.heap[g]? = w.heap[g]?) : (Kd.int k).C w' (some ⟨g,0,none⟩) n xs:=by
 refine ⟨h.1,h.2.1,fun hn => ?_⟩
 obtain ⟨ad,e,hc⟩:=h.2.2 hn
 obtain rfl:=Option.some.inj e
 refine ⟨_,rfl,fun j p hj => ?_⟩
 obtain ⟨c,h1,h2,h3⟩:=hc j p hj
 refine ⟨c,h1,h2,fun i u hu => ?_⟩
 have:=h3 i u hu
 rw [add_plain] at this ⊢
 rw [← this]
 simp only [World.cell?,hb]
theorem C_kept {k : IntKind} {W w1 : World} {g n : Nat} {xs : List Int} {v : Value} (h : (Kd.int k).C W (some ⟨g,0,none⟩) n xs) (hg : W.grownBy w1 v.ownBlock) (hlt : g < W.heap.size) (hne : ∀ j,v.ownBlock = some j → j ≠ g) : (Kd.int k).C w1 (some ⟨g,0,none⟩) n xs :=
 C_block h (hg.block g hlt (fun e => hne g e.symm rfl))
theorem R_empty {α : Type} (d : Kd α) (w : World) (e base : Nat) (hb : base ≤ w.heap.size) (ok : Nat → Prop) (hok : ok w.heap.size) : d.R e (w.alloc (.cells #[] e)) base ok (.slice (some ⟨w.heap.size,0,none⟩) 0 0) []:=by
 refine ⟨fun k hk => by (obtain rfl : w.heap.size = k:=Option.some.inj hk);exact hok, [],⟨by simp, .inr ⟨w.heap.size,0, #[],rfl,hb, ?_,Nat.le_refl _,by simp [maxLen],by simp,by simp⟩⟩,Reps.none _ _⟩
 exact heap_alloc_new w _
theorem iterPos_at {w : World} {k : Nat} {s : ByteArray} {pos : Nat} (hk : w.heap[k]? = some (.stringIter s pos)) : w.iterPos k = pos:=by
 unfold World.iterPos;rw [hk]
def rowsL : List Int := [0,0,1,2,11,3,1,4,1,5,18,6,1,7,1,8,4,9,0,10,15,11,1,12,1,13,1,14,7,15]
structure LaidRows (w : World) : Prop where
 pos : 0 < w.heap.size
 at_ : ∀ j : Nat,j < 30 → w.cell? ⟨0,j,none⟩ = some (.int .i64 (rowsL.getD j 0))
theorem LaidRows.below {w w' : World} {B : Nat} (h : LaidRows w) (hb : Below B w w') (hB : w.heap.size ≤ B) : LaidRows w' :=
 ⟨Nat.lt_of_lt_of_le h.pos hb.size,fun j hj => (hb.cell (by have:=h.pos;show 0 < B;omega)).trans (h.at_ j hj)⟩
theorem LaidRows.next {w w' : World} (h : LaidRows w) (hb : Below w.heap.size w w') : LaidRows w':=h.below hb (Nat.le_refl _)
theorem LaidRows.alloc {w : World} (h : LaidRows w) (o : Obj) : LaidRows (w.alloc o):=h.next ((Below.refl _ _).alloc (Nat.le_refl _) _)
theorem LaidRows.drewN {w : World} (h : LaidRows w) (n : Nat) : LaidRows (w.drewN n):=⟨h.pos,h.at_⟩
theorem LaidRows.drew {w : World} (h : LaidRows w) : LaidRows w.drew:=⟨h.pos,h.at_⟩
end Go.Proofs.YtdoclpgciadjaaaDoor.P
namespace Go.Proofs.YtdoclpgciadjaaaDoor
open Go.ChangeShapes Go.WideShapes Go.ChangeAt Go.WideElems Go.RowKit Go.Proofs.YtdoclpgciadjaaaDoor.P
set_option linter.unusedVariables false
theorem gRows : Tryd.prog.globalNamed "loop.example/s01647/impl.rows" = some 0:=by kernel_rfl
theorem tRows : (Tryd.prog.globals[0]?).map (·.type) = some 76:=by kernel_rfl
theorem rowsD_at {H : Type} : ∀ (i : Nat),i < 15 → ∀ l : List (DataW H),Rows.laid_loop_example_s01647_impl_rows = DataW.agg l → l[i]? = some (.agg [.lit (.int .i64 (rowsL.getD (i * 2) 0)), .lit (.int .i64 (rowsL.getD (i * 2 + 1) 0))]):=by
 intro i hi l hl
 unfold Rows.laid_loop_example_s01647_impl_rows at hl
 injection hl with hl
 subst hl
 match i,hi with
 | 0,_ => rfl
 | 1,_ => rfl
 | 2,_ => rfl
 | 3,_ => rfl
 | 4,_ => rfl
 | 5,_ => rfl
 | 6,_ => rfl
 | 7,_ => rfl
 | 8,_ => rfl
 | 9,_ => rfl
 | 10,_ => rfl
 | 11,_ => rfl
 | 12,_ => rfl
 | 13,_ => rfl
 | 14,_ => rfl
theorem rows_cells {H : Type} {enc : TypeId × Value → H} {w : World} {sp : Nat → Bool} {held : Bool} {fuel : Nat} {cs : List Value} {p : List MemPlace} (h : DataW.trod enc Tryd.prog w 0 sp held fuel 76 cs = some (Rows.laid_loop_example_s01647_impl_rows,p)) :
  ∀ j : Nat,j < 30 → cs[j]? = some (.int .i64 (rowsL.getD j 0)):=by
 obtain ⟨xs,m,rfl,hx,hlen,hn,hel⟩:=DataW.trod_array Tryd.underlying76 h
 have c2 : Tryd.prog.cellsOf 75 = 2:=by kernel_rfl
 have c1 : Tryd.prog.cellsOf 3 = 1:=by kernel_rfl
 simp only [Prod.mk.injEq] at hx
 have key : ∀ i : Nat,i < 15 → cs[i * 2]? = some (.int .i64 (rowsL.getD (i * 2) 0)) ∧ cs[i * 2 + 1]? = some (.int .i64 (rowsL.getD (i * 2 + 1) 0)):=by
  intro i hi
  have hd:=rowsD_at i hi _ hx.1
  rw [List.getElem?_map] at hd
  obtain ⟨x,hxi,hxd⟩:=Option.map_eq_some_iff.1 hd
  have he:=hel i hi
  rw [hxi,c2] at he
  obtain ⟨y0,y1,n,e0,_,t0,t1⟩:=trod_struct2 Tryd.underlying75 he
  rw [e0] at hxd
  simp only [DataW.agg.injEq,List.cons.injEq,and_true] at hxd
  obtain ⟨a,ea,ya,_⟩:=DataW.trod_int Tryd.underlying3 t0
  obtain ⟨b,eb,yb,_⟩:=DataW.trod_int Tryd.underlying3 t1
  rw [ya,yb] at hxd
  simp only [DataW.lit.injEq,Lit.int.injEq,true_and] at hxd
  have hc1 : Tryd.prog.cellsOf 3 = 1:=c1
  simp only [] at ea eb
  rw [hc1] at ea eb
  have e1:=congrArg (fun l => l[0]?) ea
  have e2:=congrArg (fun l => l[0]?) eb
  simp only [List.getElem?_take,List.getElem?_drop] at e1 e2
  simp at e1 e2
  rw [hxd.1] at e1
  rw [hxd.2] at e2
  exact ⟨e1,e2⟩
 intro j hj
 obtain ⟨i,hi | hi⟩ : ∃ i,j = i * 2 ∨ j = i * 2 + 1:=⟨j / 2,by omega⟩
 ·rw [hi];exact (key i (by omega)).1
 ·rw [hi];exact (key i (by omega)).2
theorem laid_of_var {H : Type} {enc : TypeId × Value → H} {w : World} {sp : Nat → Bool} {held : Bool} {fuel : Nat} {cs : Array Value} {p : List MemPlace} (hv : w.var? Tryd.prog "loop.example/s01647/impl.rows" = some cs) (h : DataW.trod enc Tryd.prog w 0 sp held fuel 76 cs.toList = some (Rows.laid_loop_example_s01647_impl_rows,p)) : LaidRows w:=by
 have hc : ∀ j : Nat,j < 30 → w.cell? ⟨0,j,none⟩ = some (.int .i64 (rowsL.getD j 0)):=fun j hj => by
  rw [World.var?_cell gRows hv j, ← Array.getElem?_toList]
  exact rows_cells h j hj
 refine ⟨?_,hc⟩
 have h0:=hc 0 (by decide)
 unfold World.cell? at h0
 by_cases hz : 0 < w.heap.size
 ·exact hz
 ·rw [Array.getElem?_eq_none (by omega)] at h0
  cases h0
end Go.Proofs.YtdoclpgciadjaaaDoor
namespace Go.Proofs.YtdoclpgciadjaaaDoor.P
open Go.RowKit Go.Proofs.YtdoclpgciadjaaaDoorW.PrintWords Go.Proofs.YtdoclpgciadjaaaDoorW.PrintLast Go.Proofs.YtdoclpgciadjaaaDoorW.PrintMore
set_option linter.unusedVariables false
set_option linter.unusedSimpArgs false
def laws_toByteS.l0 : Nat → List Int → List Int → Int → Option (List Int)
 | 0,_,_,_ => none
 | k + 1,x0,x3,x4 => if x4 < (x0.length : Int) then (if 0 ≤ x4 then (if x4 < (x3.length : Int) then (laws_toByteS.l0 k x0 (x3.set (x4 : Int).toNat (rd x0 x4)) (wrap64 (x4 + 1))) else (none)) else (none)) else (some x3)
def laws_eqByteS.l0 : Nat → List Int → List Int → Int → Option (Bool)
 | 0,_,_,_ => none
 | k + 1,x0,x1,x5 => if x5 < (x0.length : Int) then (if 0 ≤ x5 then (if x5 < (x1.length : Int) then (if (rd x0 x5) = (rd x1 x5) then (laws_eqByteS.l0 k x0 x1 (wrap64 (x5 + 1))) else (some false)) else (none)) else (none)) else (some true)
end Go.Proofs.YtdoclpgciadjaaaDoor.P
namespace Go.Proofs.YtdoclpgciadjaaaDoor.P
open Go Go.RowKit Go.Proofs.YtdoclpgciadjaaaDoorW.PrintWords
set_option linter.unusedVariables false
def b2 (b : Bool) : Int:=if b then 1 else 0
theorem w64 {x : Int} (h0 : 0 ≤ x) (h1 : x < 1000000000) : wrap64 x = x:=by unfold wrap64;omega
theorem rd_set (v : List Int) (i : Nat) (x : Int) (t : Nat) (hi : i < v.length) : rd (v.set i x) (t : Int) = if t = i then x else rd v (t : Int):=by
 unfold rd
 rw [Int.toNat_natCast,List.getD_eq_getElem?_getD,List.getD_eq_getElem?_getD,List.getElem?_set]
 by_cases e : i = t
 ·subst e;simp [hi]
 ·rw [if_neg e,if_neg (fun h => e h.symm)]
theorem rd_snoc (v : List Int) (x : Int) (t : Nat) : rd (v ++ [x]) (t : Int) = if t < v.length then rd v t else if t = v.length then x else 0:=by
 unfold rd
 rw [Int.toNat_natCast,List.getD_eq_getElem?_getD,List.getD_eq_getElem?_getD,List.getElem?_append]
 by_cases h : t < v.length
 ·rw [if_pos h,if_pos h]
 ·rw [if_neg h,if_neg h]
  by_cases e : t = v.length
  ·rw [if_pos e,e,Nat.sub_self];rfl
  ·rw [if_neg e,List.getElem?_eq_none (by simp;omega)];rfl
theorem rd_get (v : List Int) (t : Nat) (h : t < v.length) : v[t]? = some (rd v (t : Int)):=by
 unfold rd
 rw [Int.toNat_natCast,List.getD_eq_getElem?_getD,List.getElem?_eq_getElem h];rfl
def SameTo (x l : List Int) (i : Nat) : Prop:=x.length = l.length ∧ ∀ t,t < i → x[t]? = l[t]?
theorem SameTo.zero {x l : List Int} (h : x.length = l.length) : SameTo x l 0:=⟨h,fun t ht => absurd ht (Nat.not_lt_zero t)⟩
theorem SameTo.all {x l : List Int} {i : Nat} (h : SameTo x l i) (hi : l.length ≤ i) : x = l:=by
 apply List.ext_getElem?
 intro t
 by_cases c : t < l.length
 ·exact h.2 t (by omega)
 ·rw [List.getElem?_eq_none (by have:=h.1;omega),List.getElem?_eq_none (by omega)]
theorem SameTo.next {x l : List Int} {i : Nat} (h : SameTo x l i) (hi : i < l.length) : SameTo (x.set i (rd l (i : Int))) l (i + 1):=by
 refine ⟨by rw [List.length_set];exact h.1,fun t ht => ?_⟩
 rw [List.getElem?_set]
 by_cases e : i = t
 ·subst e
  rw [if_pos rfl,if_pos (by have:=h.1;omega),rd_get l i hi]
 ·rw [if_neg e]
  exact h.2 t (by omega)
theorem ev_neg {α : Type} {c : Prop} [Decidable c] {f g : Nat → Option α} {r : α} (h : ¬ c) (k : Ev g r) : Ev (fun n => if c then f n else g n) r :=
 Ev.congr (fun _ => if_neg h) k
theorem ev_pos {α : Type} {c : Prop} [Decidable c] {f g : Nat → Option α} {r : α} (h : c) (k : Ev f r) : Ev (fun n => if c then f n else g n) r :=
 Ev.congr (fun _ => if_pos h) k
theorem ev_some {α β : Type} {a : Option β} {b : β} {f : Nat → β → Option α} {r : α} (h : a = some b) (k : Ev (fun n => f n b) r) : Ev (fun n => a.bind (f n)) r :=
 Ev.congr (fun _ => by rw [h];rfl) k
end Go.Proofs.YtdoclpgciadjaaaDoor.P
namespace Go.Proofs.YtdoclpgciadjaaaDoor.P
open Go.RowKit Go.Proofs.YtdoclpgciadjaaaDoorW.PrintWords Go.Proofs.YtdoclpgciadjaaaDoorW.PrintLast Go.Proofs.YtdoclpgciadjaaaDoorW.PrintMore
set_option linter.unusedVariables false
set_option linter.unusedSimpArgs false
def laws_markByteS.l0 : Nat → List Int → Int → Int → Option (Int × List Int)
 | 0,_,_,_ => none
 | k + 1,x0,x1,x5 => if x5 < (x0.length : Int) then (if 0 ≤ x5 then (laws_markByteS.l0 k (x0.set (x5 : Int).toNat ((x1) % 256)) (wrap64 (x1 + 1)) (wrap64 (x5 + 1))) else (none)) else (some (x1,x0))
def laws_heldByteS.l0 : Nat → List Int → Int → Int → Option (Int)
 | 0,_,_,_ => none
 | k + 1,x0,x1,x5 => if x5 < (x0.length : Int) then (if 0 ≤ x5 then (if (rd x0 x5) = ((x1) % 256) then (laws_heldByteS.l0 k x0 (wrap64 (x1 + 1)) (wrap64 (x5 + 1))) else (some (-1))) else (none)) else (some x1)
end Go.Proofs.YtdoclpgciadjaaaDoor.P
namespace Go.Proofs.YtdoclpgciadjaaaDoor.P
open Go Go.RowKit Go.Proofs.YtdoclpgciadjaaaDoorW.PrintWords
set_option linter.unusedVariables false
structure Tch (w w' : World) (S : Nat → Prop) : Prop where
 os : w'.os = w.os
 tape : w'.tape = w.tape
 output : w'.output = w.output
 kept : Kept w w' S
theorem Tch.refl (w : World) (S : Nat → Prop) : Tch w w S:=⟨rfl,rfl,rfl,Kept.refl w S⟩
theorem Tch.size {w w' : World} {S : Nat → Prop} (h : Tch w w' S) : w.heap.size ≤ w'.heap.size:=h.kept.1
theorem Tch.block {w w' : World} {S : Nat → Prop} (h : Tch w w' S) {k : Nat} (hk : k < w.heap.size) (hn : ¬ S k) : w'.heap[k]? = w.heap[k]?:=h.kept.2 k hk hn
theorem Tch.mono {w w' : World} {S S' : Nat → Prop} (h : Tch w w' S) (hs : ∀ k,S k → S' k) : Tch w w' S':=⟨h.os,h.tape,h.output,h.kept.mono hs⟩
theorem Tch.then_ {w w1 w2 : World} {S S2 : Nat → Prop} (h : Tch w w1 S) (k : Tch w1 w2 S2) (hs : ∀ k,S2 k → S k ∨ w.heap.size ≤ k) : Tch w w2 S:=⟨k.os.trans h.os,k.tape.trans h.tape,k.output.trans h.output,h.kept.then_ k.kept hs⟩
theorem Tch.trans {w w1 w2 : World} {S : Nat → Prop} (h : Tch w w1 S) (k : Tch w1 w2 S) : Tch w w2 S:=h.then_ k fun _ h => .inl h
theorem Tch.drewN {w w1 : World} {S : Nat → Prop} (h : Tch w w1 S) (m : Nat) : Tch w (w1.drewN m) S:=⟨h.os,h.tape,h.output,h.kept.drewN m⟩
theorem Tch.drew {w w1 : World} {S : Nat → Prop} (h : Tch w w1 S) : Tch w w1.drew S:=⟨h.os,h.tape,h.output,h.kept.drew⟩
theorem Tch.alloc {w w1 : World} {S : Nat → Prop} (h : Tch w w1 S) (o : Obj) : Tch w (w1.alloc o) S:=⟨h.os,h.tape,h.output,h.kept.alloc o⟩
theorem Tch.setCell {w w1 : World} {S : Nat → Prop} (h : Tch w w1 S) {p : Addr} (hp : S p.block ∨ w.heap.size ≤ p.block) (u : Value) : Tch w (w1.setCell p u) S:=⟨h.os,h.tape,h.output,h.kept.setCell hp u⟩
theorem Tch.belowR {w w1 w2 : World} {S : Nat → Prop} (h : Tch w w1 S) (hb : Below w1.heap.size w1 w2) : Tch w w2 S:=⟨hb.os.trans h.os,hb.tape.trans h.tape,hb.output.trans h.output,h.kept.below hb⟩
theorem Tch.of_below {w w1 : World} (S : Nat → Prop) (hb : Below w.heap.size w w1) : Tch w w1 S:=(Tch.refl w S).belowR hb
theorem Tch.grown {w w1 w2 : World} {S : Nat → Prop} {row : Option Nat} (h : Tch w w1 S) (hg : w1.grownBy w2 row) (hr : ∀ k,row = some k → S k ∨ w.heap.size ≤ k) : Tch w w2 S:=⟨hg.os.trans h.os,hg.tape.trans h.tape,hg.output.trans h.output,Kept.of_grown hg h.kept hr⟩
theorem Tch.below {w0 w w' : World} {S : Nat → Prop} {B : Nat} (h : Tch w w' S) (hb : Below B w0 w) (hB : B ≤ w.heap.size) (hs : ∀ k,S k → B ≤ k) : Below B w0 w' :=
 hb.trans ⟨h.os,h.tape,h.output,h.size,fun k hk => h.block (by omega) (fun e => by have:=hs k e;omega)⟩
theorem Tch.R {α : Type} {d : Kd α} {e : Nat} {w w' : World} {S : Nat → Prop} {base : Nat} {ok : Nat → Prop} {v : Value} {xs : List α} (h : Tch w w' S) (hr : d.R e w base ok v xs) (hne : ∀ k,ok k → ¬ S k) : d.R e w' base ok v xs:=Kd.R_kept hr h.kept hne
theorem Tch.one {w w1 : World} {p : Nat} (h : Tch w w1 (fun k => k = p)) (j : Nat) (u : Value) : Tch w (w1.setCell ⟨p,j,none⟩ u) (fun k => k = p):=Tch.setCell (p:=⟨p,j,none⟩) h (.inl rfl) u
theorem Tch.refl1 (w : World) (p : Nat) : Tch w w (fun k => k = p):=Tch.refl w _
structure SS where
 field : Int
 left : Int
 run : Int
 level : Int
 crc : Int
 acc : Int
 ext : Bool
 id : Int
 rtr : Bool
 dlc : Int
 data : List Int
def cellsS (s : SS) (v : Value) : Array Value := #[.int .i64 s.field, .int .i64 s.left, .int .i64 s.run, .int .i64 s.level, .int .i64 s.crc, .int .i64 s.acc, .bool s.ext, .int .u32 s.id, .bool s.rtr, .int .i64 s.dlc,v]
def objS (s : SS) (v : Value) : Obj := .cells (cellsS s v) 31 (0,0)
section
variable {w : World} {p : Nat} {s : SS} {v : Value} (h : w.heap[p]? = some (objS s v))
include h
theorem cS0 : w.cell? ⟨p,0,none⟩ = some (.int .i64 s.field):=blk_cell h 0
theorem cS1 : w.cell? ⟨p,1,none⟩ = some (.int .i64 s.left):=blk_cell h 1
theorem cS2 : w.cell? ⟨p,2,none⟩ = some (.int .i64 s.run):=blk_cell h 2
theorem cS3 : w.cell? ⟨p,3,none⟩ = some (.int .i64 s.level):=blk_cell h 3
theorem cS4 : w.cell? ⟨p,4,none⟩ = some (.int .i64 s.crc):=blk_cell h 4
theorem cS5 : w.cell? ⟨p,5,none⟩ = some (.int .i64 s.acc):=blk_cell h 5
theorem cS6 : w.cell? ⟨p,6,none⟩ = some (.bool s.ext):=blk_cell h 6
theorem cS7 : w.cell? ⟨p,7,none⟩ = some (.int .u32 s.id):=blk_cell h 7
theorem cS8 : w.cell? ⟨p,8,none⟩ = some (.bool s.rtr):=blk_cell h 8
theorem cS9 : w.cell? ⟨p,9,none⟩ = some (.int .i64 s.dlc):=blk_cell h 9
theorem cS10 : w.cell? ⟨p,10,none⟩ = some v:=blk_cell h 10
theorem fS (j : Nat) : w.frozen? ⟨p,j,none⟩ = false:=blk_frozen h j
theorem setS0 (x : Int) : (w.setCell ⟨p,0,none⟩ (.int .i64 x)).heap[p]? = some (objS { s with field:=x } v):=by simp only [World.setCell,Array.getElem?_modify,h];rfl
theorem setS1 (x : Int) : (w.setCell ⟨p,1,none⟩ (.int .i64 x)).heap[p]? = some (objS { s with left:=x } v):=by simp only [World.setCell,Array.getElem?_modify,h];rfl
theorem setS2 (x : Int) : (w.setCell ⟨p,2,none⟩ (.int .i64 x)).heap[p]? = some (objS { s with run:=x } v):=by simp only [World.setCell,Array.getElem?_modify,h];rfl
theorem setS3 (x : Int) : (w.setCell ⟨p,3,none⟩ (.int .i64 x)).heap[p]? = some (objS { s with level:=x } v):=by simp only [World.setCell,Array.getElem?_modify,h];rfl
theorem setS4 (x : Int) : (w.setCell ⟨p,4,none⟩ (.int .i64 x)).heap[p]? = some (objS { s with crc:=x } v):=by simp only [World.setCell,Array.getElem?_modify,h];rfl
theorem setS5 (x : Int) : (w.setCell ⟨p,5,none⟩ (.int .i64 x)).heap[p]? = some (objS { s with acc:=x } v):=by simp only [World.setCell,Array.getElem?_modify,h];rfl
theorem setS6 (x : Bool) : (w.setCell ⟨p,6,none⟩ (.bool x)).heap[p]? = some (objS { s with ext:=x } v):=by simp only [World.setCell,Array.getElem?_modify,h];rfl
theorem setS7 (x : Int) : (w.setCell ⟨p,7,none⟩ (.int .u32 x)).heap[p]? = some (objS { s with id:=x } v):=by simp only [World.setCell,Array.getElem?_modify,h];rfl
theorem setS8 (x : Bool) : (w.setCell ⟨p,8,none⟩ (.bool x)).heap[p]? = some (objS { s with rtr:=x } v):=by simp only [World.setCell,Array.getElem?_modify,h];rfl
theorem setS9 (x : Int) : (w.setCell ⟨p,9,none⟩ (.int .i64 x)).heap[p]? = some (objS { s with dlc:=x } v):=by simp only [World.setCell,Array.getElem?_modify,h];rfl
theorem setS10 (x : Value) : (w.setCell ⟨p,10,none⟩ x).heap[p]? = some (objS s x):=by simp only [World.setCell,Array.getElem?_modify,h];rfl
end
structure SAt (w0 w : World) (p : Nat) (S : Nat → Prop) (s : SS) (v : Value) : Prop where
 obj : w.heap[p]? = some (objS s v)
 row : Kd.R (Kd.int .u8) 5 w w0.heap.size S v s.data
structure EndS (w0 w : World) (p : Nat) (S : Nat → Prop) (s : SS) (e : Ending) (w' : World) : Prop where
 ret : e = .returned (.tuple #[])
 at_ : ∃ v,SAt w0 w' p S s v
 tch : Tch w w' (fun k => k = p ∨ S k)
structure SIn (w0 w : World) (p : Nat) (S : Nat → Prop) (s : SS) (v : Value) : Prop where
 obj : w.heap[p]? = some (objS s v)
 row : Kd.R (Kd.int .u8) 5 w w0.heap.size S v s.data
 below : Below w0.heap.size w0 w
 fresh : ∀ k,w.heap.size ≤ k → S k
theorem SIn.put {w0 w : World} {p : Nat} {S : Nat → Prop} {s : SS} {v : Value} (h : SIn w0 w p S s v) (hS : ¬ S p) (hpl : w0.heap.size ≤ p) {j : Nat} {u : Value} {s' : SS} (ho : (w.setCell ⟨p,j,none⟩ u).heap[p]? = some (objS s' v)) (hd : s'.data = s.data) : SIn w0 (w.setCell ⟨p,j,none⟩ u) p S s' v :=
 ⟨ho,by rw [hd];exact Kd.R_step h.row (fun k hk _ => Below.heap_setCell _ _ _ k (fun e => hS ((show k = p from e) ▸ hk))),h.below.setCell hpl _,fun k hk => h.fresh k (by simpa [World.setCell] using hk)⟩
theorem row_setS {w w0 : World} {p : Nat} {S : Nat → Prop} {v : Value} {l : List Int} (h : Kd.R (Kd.int .u8) 5 w w0.heap.size S v l) (hS : ¬ S p) (j : Nat) (u : Value) : Kd.R (Kd.int .u8) 5 (w.setCell ⟨p,j,none⟩ u) w0.heap.size S v l :=
 Kd.R_step h (fun k hk _ => Below.heap_setCell _ _ _ k (fun e => hS ((show k = p from e) ▸ hk)))
structure S9At (w0 w w1 : World) (p : Nat) (S : Nat → Prop) (s : SS) (d : List Int) (m g c1 : Nat) (v1 : Value) : Prop where
 obj : w1.heap[p]? = some (objS s v1)
 row : Kd.R (Kd.int .u8) 5 w1 w0.heap.size S (.slice (some ⟨g,0,none⟩) (m + 1) c1) d
 len : d.length = m + 1
 tch : Tch w w1 (fun k => k = p ∨ S k)
 own : S g
theorem S9At.facts {w0 w w1 : World} {p : Nat} {S : Nat → Prop} {s : SS} {d : List Int} {m g c1 : Nat} {v1 : Value} (h : S9At w0 w w1 p S s d m g c1 v1) (hS : ¬ S p) (hm : m < 1000) :
  g ≠ p ∧ p ≠ g ∧ ((0 ≤ (m : Int)) = True) ∧ (((m : Int) < ((m + 1 : Nat) : Int)) = True) ∧ w1.cell? ⟨g,m,none⟩ = some (.int .u8 (rd d (m : Int))) ∧ w1.frozen? ⟨g,m,none⟩ = false ∧ w1.cell? ⟨p,10,none⟩ = some v1 ∧ w1.frozen? ⟨p,10,none⟩ = false:=by
 have hgp : g ≠ p:=fun e => hS (e ▸ h.own)
 obtain ⟨hx,hf⟩:=Kd.R_celln 0 h.row (m : Int) (by omega) (by omega)
 rw [Int.toNat_natCast] at hx hf
 exact ⟨hgp,fun e => hgp e.symm,eq_true (by omega),eq_true (by omega),hx,hf,cS10 h.obj,fS h.obj 10⟩
theorem s9_append {w0 w w1 : World} {S : Nat → Prop} {p : Nat} {s : SS} {d : List Int} {v v1 : Value} (hp : w.heap[p]? = some (objS s v)) (hv : Kd.R (Kd.int .u8) 5 w w0.heap.size S v d) (hS : ¬ S p)
  (ho : Kd.R (Kd.int .u8) 5 w1 w0.heap.size S v1 (d ++ [0])) (hg : w.grownBy w1 v.ownBlock) : ∃ (g c1 : Nat),v1 = .slice (some ⟨g,0,none⟩) (d.length + 1) c1 ∧ S9At w0 w w1 p S s (d ++ [0]) d.length g c1 v:=by
 obtain ⟨g,c1,e1, -, -, -, -⟩:=Kd.R_form ho (by simp)
 subst e1
 have hl : (d ++ [0]).length = d.length + 1:=by simp
 rw [hl] at ho ⊢
 exact ⟨g,c1,rfl,blk_grown hp hg (fun e => hS (hv.1 p e.symm)),ho,hl,(Tch.refl _ _).grown hg (fun k hk => .inl (.inr (hv.1 k hk))),ho.1 g rfl⟩
theorem s9_same {w0 w : World} {S : Nat → Prop} {p : Nat} {s : SS} {d : List Int} {v : Value} (hp : w.heap[p]? = some (objS s v)) (hv : Kd.R (Kd.int .u8) 5 w w0.heap.size S v d) {m : Nat} (hm : d.length = m + 1) : ∃ (g c1 : Nat),v = .slice (some ⟨g,0,none⟩) (m + 1) c1 ∧ S9At w0 w w p S s d m g c1 v:=by
 obtain ⟨g,c1,e1, -, -, -, -⟩:=Kd.R_form hv (by omega)
 subst e1
 rw [hm] at hv ⊢
 exact ⟨g,c1,rfl,by rw [← hm];rw [hm] at hp ⊢;exact hp,hv,hm,Tch.refl _ _,hv.1 g rfl⟩
theorem s9_mid {w0 w w1 : World} {p : Nat} {S : Nat → Prop} {s : SS} {d : List Int} {m g c1 : Nat} {v1 V : Value} (h : S9At w0 w w1 p S s d m g c1 v1) (hS : ¬ S p) : S9At w0 w (w1.setCell ⟨p,10,none⟩ V) p S s d m g c1 V :=
 ⟨setS10 h.obj V,Kd.R_step h.row (fun k hk _ => Below.heap_setCell _ _ _ k (fun e => hS ((show k = p from e) ▸ hk))),h.len,h.tch.setCell (.inl (.inl rfl)) _,h.own⟩
theorem s9_draw {w0 w w1 : World} {p : Nat} {S : Nat → Prop} {s : SS} {d : List Int} {m g c1 : Nat} {v1 : Value} (h : S9At w0 w w1 p S s d m g c1 v1) (n : Nat) : S9At w0 w (w1.drewN n) p S s d m g c1 v1 :=
 ⟨h.obj,Kd.R_step h.row (fun _ _ _ => rfl),h.len,h.tch.drewN n,h.own⟩
theorem s9_put {w0 w w1 : World} {p : Nat} {S : Nat → Prop} {s : SS} {d : List Int} {m g c1 : Nat} (h : S9At w0 w w1 p S s d m g c1 (.slice (some ⟨g,0,none⟩) (m + 1) c1)) (hS : ¬ S p) (x : Int) : S9At w0 w (w1.setCell ⟨g,m,none⟩ (.int .u8 x)) p S s (d.set m x) m g c1 (.slice (some ⟨g,0,none⟩) (m + 1) c1):=by
 obtain ⟨h1,h2⟩:=Kd.R_putg h.row (m : Int) x
 rw [Int.toNat_natCast] at h1 h2
 exact ⟨blk_grown h.obj h2 (fun e => hS (by injection e with e;exact e ▸ h.own)),h1,by rw [List.length_set];exact h.len,h.tch.setCell (.inl (.inr h.own)) _,h.own⟩
theorem infoU8s : (Tryd.prog.info? 5).map (fun i => (i.zero,i.size,i.bytes)) = some (some (.int .u8 0),1,1):=by kernel_rfl
structure SOk (s : SS) : Prop where
 f0 : 1 ≤ s.field
 f1 : s.field ≤ 14
 l0 : 1 ≤ s.left
 l1 : s.left ≤ 64
 d0 : 0 ≤ s.dlc
 d1 : s.dlc ≤ 15
 i0 : 0 ≤ s.id
 i1 : s.id < 536870912
 a0 : 0 ≤ s.acc
 a1 : s.acc < 32768
 ne : s.field = 9 → s.left % 8 ≠ 0 → s.data ≠ []
 by_ : ∀ x ∈ s.data,0 ≤ x ∧ x < 256
 dl : s.data.length ≤ 8
def dataS (s : SS) (b : Int) : List Int:=let d:=if s.left % 8 = 0 then s.data ++ [0] else s.data;d.set (d.length - 1) ((2 * rd d ((d.length : Int) - 1) + b) % 256)
def takeS (s : SS) (b : Int) : SS :=
 if s.field = 2 ∨ s.field = 5 then { s with id:=(2 * s.id + b) % 536870912 }
 else if s.field = 3 ∨ s.field = 6 then { s with rtr:=b == 1 }
 else if s.field = 4 then (if b = 1 then { s with ext:=true,rtr:=false } else { s with ext:=false })
 else if s.field = 8 then { s with dlc:=(2 * s.dlc + b) % 16 }
 else if s.field = 9 then { s with data:=dataS s b }
 else if s.field = 10 then { s with acc:=(2 * s.acc + b) % 32768 } else s
theorem nat_or_bitS (m b : Nat) (hb : b ≤ 1) : (m * 2) ||| b = 2 * m + b:=by
 have:=Nat.two_pow_add_eq_or_of_lt (i:=1) (b:=b) (by omega) m
 rw [Nat.pow_one] at this
 rw [Nat.mul_comm m 2, ← this]
theorem and_low (m k : Nat) : m &&& (2 ^ k - 1) = m % 2 ^ k:=Nat.and_two_pow_sub_one_eq_mod m k
theorem or_and_i64 (x b : Int) (k : Nat) (hk : k ≤ 30) (h0 : 0 ≤ x) (h1 : x < 1000000000) (hb : b = 0 ∨ b = 1) : Go.bits .and .i64 (Go.bits .or .i64 (wrap64 (x * 2)) b) ((2 ^ k - 1 : Nat) : Int) = (2 * x + b) % ((2 ^ k : Nat) : Int):=by
 obtain ⟨n,rfl⟩ : ∃ n : Nat,x = (n : Int):=⟨x.toNat,by omega⟩
 obtain ⟨m,rfl,hm⟩ : ∃ m : Nat,b = (m : Int) ∧ m ≤ 1:=⟨b.toNat,by omega,by omega⟩
 have e : wrap64 ((n : Int) * 2) = ((n * 2 : Nat) : Int):=by unfold wrap64;omega
 have hp : (2 : Nat) ^ 62 ≤ 2 ^ IntKind.i64.bits:=Nat.pow_le_pow_right (by decide) (by decide)
 have hk2 : 2 ^ k ≤ 2 ^ 30:=Nat.pow_le_pow_right (by decide) hk
 have small : ∀ y : Nat,y < 2 ^ 62 → y % 2 ^ IntKind.i64.bits = y:=fun y hy => Nat.mod_eq_of_lt (Nat.lt_of_lt_of_le hy hp)
 have hw : ∀ y : Nat,y < 2 ^ 62 → IntKind.i64.wrap ((y : Nat) : Int) = (y : Int):=fun y hy => by rw [IntKind.wrap_i64];omega
 rw [e]
 have e1 : Go.bits .or .i64 ((n * 2 : Nat) : Int) (m : Int) = ((2 * n + m : Nat) : Int):=by
  simp only [Go.bits,BitVec.ofInt_natCast,BitVec.toNat_or,BitVec.toNat_ofNat,small (n * 2) (by omega),small m (by omega)]
  rw [nat_or_bitS n m hm,hw _ (by omega)]
 rw [e1]
 have e2 : Go.bits .and .i64 ((2 * n + m : Nat) : Int) ((2 ^ k - 1 : Nat) : Int) = (((2 * n + m) % 2 ^ k : Nat) : Int):=by
  simp only [Go.bits,BitVec.ofInt_natCast,BitVec.toNat_and,BitVec.toNat_ofNat,small (2 * n + m) (by omega),small (2 ^ k - 1) (by omega)]
  rw [and_low,hw _ (Nat.lt_of_le_of_lt (Nat.mod_le _ _) (by omega))]
 rw [e2]
 push_cast
 rfl
theorem or_and_u32 (x b : Int) (h0 : 0 ≤ x) (h1 : x < 536870912) (hb : b = 0 ∨ b = 1) : Go.bits .and .u32 (Go.bits .or .u32 ((x * 2) % 4294967296) b) 536870911 = (2 * x + b) % 536870912:=by
 obtain ⟨n,rfl⟩ : ∃ n : Nat,x = (n : Int):=⟨x.toNat,by omega⟩
 obtain ⟨m,rfl,hm⟩ : ∃ m : Nat,b = (m : Int) ∧ m ≤ 1:=⟨b.toNat,by omega,by omega⟩
 have e : ((n : Int) * 2) % 4294967296 = ((n * 2 : Nat) : Int):=by omega
 have small : ∀ y : Nat,y < 4294967296 → y % 2 ^ IntKind.u32.bits = y:=fun y hy => Nat.mod_eq_of_lt hy
 have hw : ∀ y : Nat,y < 4294967296 → IntKind.u32.wrap ((y : Nat) : Int) = (y : Int):=fun y hy => by rw [IntKind.wrap_u32];omega
 rw [e]
 have e1 : Go.bits .or .u32 ((n * 2 : Nat) : Int) (m : Int) = ((2 * n + m : Nat) : Int):=by
  simp only [Go.bits,BitVec.ofInt_natCast,BitVec.toNat_or,BitVec.toNat_ofNat,small (n * 2) (by omega),small m (by omega)]
  rw [nat_or_bitS n m hm,hw _ (by omega)]
 rw [e1]
 have e2 : Go.bits .and .u32 ((2 * n + m : Nat) : Int) ((2 ^ 29 - 1 : Nat) : Int) = (((2 * n + m) % 2 ^ 29 : Nat) : Int):=by
  simp only [Go.bits,BitVec.ofInt_natCast,BitVec.toNat_and,BitVec.toNat_ofNat,small (2 * n + m) (by omega),small (2 ^ 29 - 1) (by omega)]
  rw [and_low,hw _ (by omega)]
 have e3 : ((2 ^ 29 - 1 : Nat) : Int) = 536870911:=rfl
 rw [e3] at e2
 rw [e2]
 omega
theorem or_u8S (x b : Int) (h0 : 0 ≤ x) (hb : b = 0 ∨ b = 1) : Go.bits .or .u8 ((x * 2) % 256) b = (2 * x + b) % 256:=by
 obtain ⟨n,rfl⟩ : ∃ n : Nat,x = (n : Int):=⟨x.toNat,by omega⟩
 obtain ⟨m,rfl,hm⟩ : ∃ m : Nat,b = (m : Int) ∧ m ≤ 1:=⟨b.toNat,by omega,by omega⟩
 have e : ((n : Int) * 2) % 256 = (((n % 128) * 2 : Nat) : Int):=by omega
 have ha' : ((n % 128) * 2) % 2 ^ IntKind.u8.bits = (n % 128) * 2:=Nat.mod_eq_of_lt (show (n % 128) * 2 < 256 by omega)
 have hb' : m % 2 ^ IntKind.u8.bits = m:=Nat.mod_eq_of_lt (show m < 256 by omega)
 rw [e]
 simp only [Go.bits,BitVec.ofInt_natCast,BitVec.toNat_or,BitVec.toNat_ofNat,ha',hb']
 rw [nat_or_bitS _ m hm,IntKind.wrap_u8]
 omega
theorem rd_rangeS {l : List Int} (h : ∀ x ∈ l,0 ≤ x ∧ x < 256) (i : Int) : 0 ≤ rd l i:=by
 unfold rd
 rw [List.getD_eq_getElem?_getD]
 cases e : l[i.toNat]? with
 | none => exact Int.le_refl 0
 | some y => exact (h y (List.mem_of_getElem? e)).1
theorem data9_eq (s : SS) (b : Int) (hb : b = 0 ∨ b = 1) (d : List Int) (m : Nat) (hd : d = if s.left % 8 = 0 then s.data ++ [0] else s.data) (hl : d.length = m + 1) (hr : 0 ≤ rd d (m : Int)) :
  dataS s b = d.set m (Go.bits .or .u8 (rd d (m : Int) * 2 % 256) b):=by
 unfold dataS
 simp only []
 rw [← hd,hl,show ((m + 1 : Nat) : Int) - 1 = (m : Int) by omega,show m + 1 - 1 = m by omega,or_u8S _ b hr hb]
end Go.Proofs.YtdoclpgciadjaaaDoor.P
namespace Go.Proofs.YtdoclpgciadjaaaDoor.P
open Go.RowKit Go.Proofs.YtdoclpgciadjaaaDoorW.PrintWords Go.Proofs.YtdoclpgciadjaaaDoorW.PrintLast Go.Proofs.YtdoclpgciadjaaaDoorW.PrintMore
set_option linter.unusedVariables false
set_option linter.unusedSimpArgs false
def impl_fieldSize.f (a0 : Int) (a1_0 : Bool) (a1_1 : Int) (a1_2 : Bool) (a1_3 : Int) (l1_4 : List Int) : Option (Int):=if a0 = 7 ∧ a1_0 = true then some 2 else if a0 = 9 then some (wrap64 (8 * (if a1_3 < 8 then a1_3 else 8))) else if 0 ≤ a0 ∧ a0 < 15 then some (rowsL.getD (a0.toNat * 2) 0) else none
theorem impl_fieldSize.calls (a0 : Int) (a1_0 : Bool) (a1_1 : Int) (a1_2 : Bool) (a1_3 : Int) (A1_4 : Option Addr) (c1_4 : Nat) (l1_4 : List Int) (r : Int) (w : World) (hr1_4 : Kd.C (Kd.int .u8) w A1_4 l1_4.length l1_4) (hc1_4 : l1_4.length ≤ c1_4) (h : impl_fieldSize.f a0 a1_0 a1_1 a1_2 a1_3 l1_4 = some r) (hG : LaidRows w) :
  Calls Tryd.prog 33 #[.int .i64 a0, .agg #[.bool a1_0, .int .u32 a1_1, .bool a1_2, .int .i64 a1_3, .slice A1_4 l1_4.length c1_4]] w fun e w' => e = .returned (.int .i64 r) ∧ Below w.heap.size w w':=by
 unfold impl_fieldSize.f at h
 clear hr1_4 hc1_4
 by_cases c7 : a0 = 7
 ·subst c7
  cases a1_0 with
  | true =>
   rw [if_pos ⟨rfl,rfl⟩] at h
   obtain rfl:=Option.some.inj h
   clear h
   go_enter Tryd.func33,Tryd.ntmps33
   go_wp2_with (fail)
   go_ret
   exact ⟨rfl,(Below.refl _ _).alloc (Nat.le_refl _) _⟩
  | false =>
   rw [if_neg (by simp),if_neg (by decide),if_pos (by decide)] at h
   obtain rfl:=Option.some.inj h
   clear h
   have hcell : w.cell? ⟨0,14,none⟩ = some (.int .i64 1):=hG.at_ 14 (by decide)
   have h0:=hG.pos
   clear hG
   go_enter Tryd.func33,Tryd.ntmps33
   go_wp2_with (fail)
   go_ret
   exact ⟨rfl,(Below.refl _ _).alloc (Nat.le_refl _) _⟩
 rw [if_neg (fun h => c7 h.1)] at h
 have b7 : (a0 == 7) = false:=beq_eq_false_iff_ne.mpr c7
 by_cases c9 : a0 = 9
 ·subst c9
  rw [if_pos rfl] at h
  obtain rfl:=Option.some.inj h
  clear h b7 hG c7
  by_cases cl : a1_3 < 8
  ·rw [if_pos cl]
   go_enter Tryd.func33,Tryd.ntmps33
   go_wp2_with (fail)
   all_goals
    go_ret
    exact ⟨by first | rfl | omega,(Below.refl _ _).alloc (Nat.le_refl _) _⟩
  by_cases ce : a1_3 = 8
  ·subst ce
   rw [if_neg (by decide),show wrap64 (8 * 8) = 64 by unfold wrap64;omega]
   go_enter Tryd.func33,Tryd.ntmps33
   go_wp2_with (fail)
   all_goals
    go_ret
    exact ⟨rfl,(Below.refl _ _).alloc (Nat.le_refl _) _⟩
  have cg : 8 < a1_3:=by omega
  rw [if_neg cl,show wrap64 (8 * 8) = 64 by unfold wrap64;omega]
  clear cl ce
  go_enter Tryd.func33,Tryd.ntmps33
  go_wp2_with (fail)
  all_goals
   go_ret
   exact ⟨by first | rfl | omega,(Below.refl _ _).alloc (Nat.le_refl _) _⟩
 have b9 : (a0 == 9) = false:=beq_eq_false_iff_ne.mpr c9
 rw [if_neg c9] at h
 by_cases cr : 0 ≤ a0 ∧ a0 < 15
 ·rw [if_pos cr] at h
  obtain rfl:=Option.some.inj h
  obtain ⟨n,rfl⟩ : ∃ n : Nat,a0 = (n : Int):=⟨a0.toNat,by omega⟩
  have hcell : w.cell? ⟨0,n * 2,none⟩ = some (.int .i64 (rowsL.getD (n * 2) 0)):=hG.at_ (n * 2) (by omega)
  have p0 : (0 ≤ (n : Int)) = True:=eq_true (by omega)
  have q0 : ((n : Int) < 15) = True:=eq_true (by omega)
  have h0:=hG.pos
  rw [Int.toNat_natCast]
  obtain ⟨R,hR⟩ : ∃ R,rowsL.getD (n * 2) 0 = R:=⟨_,rfl⟩
  rw [hR] at hcell ⊢
  clear h cr hG c7 c9 hR
  go_enter Tryd.func33,Tryd.ntmps33
  go_wp2_with (fail)
  go_ret
  exact ⟨rfl,(Below.refl _ _).alloc (Nat.le_refl _) _⟩
 ·rw [if_neg cr] at h
  cases h
mutual
def impl_Scan_sound.j0 : Nat → Bool → Int → Int → Int → Int → Int → Int → Bool → Int → Bool → Int → List Int → Option (Bool)
 | 0,_,_,_,_,_,_,_,_,_,_,_,_ => none
 | k + 1,x36,x102000,x102001,x102002,x102003,x102004,x102005,x102006,x102007,x102008,x102009,x102010 => if x36 = true then (some false) else ((impl_fieldSize.f x102000 x102006 x102007 x102008 x102009 x102010).bind fun t102 => (if x102001 < 1 then (impl_Scan_sound.j1 k t102 true x102000 x102001 x102002 x102003 x102004 x102005 x102006 x102007 x102008 x102009 x102010) else (if x102001 > t102 then (impl_Scan_sound.j1 k t102 true x102000 x102001 x102002 x102003 x102004 x102005 x102006 x102007 x102008 x102009 x102010) else (if x102002 < 0 then (impl_Scan_sound.j1 k t102 true x102000 x102001 x102002 x102003 x102004 x102005 x102006 x102007 x102008 x102009 x102010) else (if x102002 > 5 then (impl_Scan_sound.j1 k t102 true x102000 x102001 x102002 x102003 x102004 x102005 x102006 x102007 x102008 x102009 x102010) else (if x102003 < 0 then (impl_Scan_sound.j1 k t102 true x102000 x102001 x102002 x102003 x102004 x102005 x102006 x102007 x102008 x102009 x102010) else (impl_Scan_sound.j1 k t102 (decide (x102003 > 1)) x102000 x102001 x102002 x102003 x102004 x102005 x102006 x102007 x102008 x102009 x102010)))))))
def impl_Scan_sound.j1 : Nat → Int → Bool → Int → Int → Int → Int → Int → Int → Bool → Int → Bool → Int → List Int → Option (Bool)
 | 0,_,_,_,_,_,_,_,_,_,_,_,_,_ => none
 | k + 1,x3,x70,x102000,x102001,x102002,x102003,x102004,x102005,x102006,x102007,x102008,x102009,x102010 => if x70 = true then (some false) else (if x102000 = 1 then (if ((x102002 == 0) != true) = true then (impl_Scan_sound.j2 k x3 true x102000 x102001 x102002 x102003 x102004 x102005 x102006 x102007 x102008 x102009 x102010) else (if x102002 = 0 then (impl_Scan_sound.j2 k x3 (x102003 != 0) x102000 x102001 x102002 x102003 x102004 x102005 x102006 x102007 x102008 x102009 x102010) else (impl_Scan_sound.j2 k x3 false x102000 x102001 x102002 x102003 x102004 x102005 x102006 x102007 x102008 x102009 x102010))) else (if ((x102002 == 0) != (decide (x102000 > 11))) = true then (impl_Scan_sound.j2 k x3 true x102000 x102001 x102002 x102003 x102004 x102005 x102006 x102007 x102008 x102009 x102010) else (if x102002 = 0 then (impl_Scan_sound.j2 k x3 (x102003 != 0) x102000 x102001 x102002 x102003 x102004 x102005 x102006 x102007 x102008 x102009 x102010) else (impl_Scan_sound.j2 k x3 false x102000 x102001 x102002 x102003 x102004 x102005 x102006 x102007 x102008 x102009 x102010))))
def impl_Scan_sound.j2 : Nat → Int → Bool → Int → Int → Int → Int → Int → Int → Bool → Int → Bool → Int → List Int → Option (Bool)
 | 0,_,_,_,_,_,_,_,_,_,_,_,_,_ => none
 | k + 1,x3,x92,x102000,x102001,x102002,x102003,x102004,x102005,x102006,x102007,x102008,x102009,x102010 => if x92 = true then (some false) else (if x102004 < 0 then (impl_Scan_sound.j3 k x3 true x102000 x102001 x102002 x102003 x102004 x102005 x102006 x102007 x102008 x102009 x102010) else (if x102004 > 32767 then (impl_Scan_sound.j3 k x3 true x102000 x102001 x102002 x102003 x102004 x102005 x102006 x102007 x102008 x102009 x102010) else (if x102005 < 0 then (impl_Scan_sound.j3 k x3 true x102000 x102001 x102002 x102003 x102004 x102005 x102006 x102007 x102008 x102009 x102010) else (impl_Scan_sound.j3 k x3 (decide (x102005 > 32767)) x102000 x102001 x102002 x102003 x102004 x102005 x102006 x102007 x102008 x102009 x102010))))
def impl_Scan_sound.j3 : Nat → Int → Bool → Int → Int → Int → Int → Int → Int → Bool → Int → Bool → Int → List Int → Option (Bool)
 | 0,_,_,_,_,_,_,_,_,_,_,_,_,_ => none
 | k + 1,x3,x110,x102000,x102001,x102002,x102003,x102004,x102005,x102006,x102007,x102008,x102009,x102010 => if x110 = true then (some false) else (if x102000 = 9 then (if x102008 = true then (some false) else (if x102009 > 0 then (some ((x102010.length : Int) == (wrap64 (Int.tdiv (wrap64 ((wrap64 (x3 - x102001)) + 7)) 8)))) else (some false))) else (some true))
end
mutual
def impl_Scan_verdict.j0 : Nat → Int → Bool → Int → Int → Int → Int → Int → Int → Bool → Int → Bool → Int → List Int → Option (Int)
 | 0,_,_,_,_,_,_,_,_,_,_,_,_,_ => none
 | k + 1,x1,x5,x112000,x112001,x112002,x112003,x112004,x112005,x112006,x112007,x112008,x112009,x112010 => if x5 = true then (impl_Scan_verdict.j1 k x1 x5 x112000 x112001 x112002 x112003 x112004 x112005 x112006 x112007 x112008 x112009 x112010) else (if x112000 = 11 then (impl_Scan_verdict.j1 k x1 (x1 == 0) x112000 x112001 x112002 x112003 x112004 x112005 x112006 x112007 x112008 x112009 x112010) else (if x112000 = 13 then (impl_Scan_verdict.j1 k x1 (x1 == 0) x112000 x112001 x112002 x112003 x112004 x112005 x112006 x112007 x112008 x112009 x112010) else (impl_Scan_verdict.j1 k x1 false x112000 x112001 x112002 x112003 x112004 x112005 x112006 x112007 x112008 x112009 x112010)))
def impl_Scan_verdict.j1 : Nat → Int → Bool → Int → Int → Int → Int → Int → Int → Bool → Int → Bool → Int → List Int → Option (Int)
 | 0,_,_,_,_,_,_,_,_,_,_,_,_,_ => none
 | k + 1,x1,x5,x112000,x112001,x112002,x112003,x112004,x112005,x112006,x112007,x112008,x112009,x112010 => if x5 = true then (some 4) else (if x112000 = 13 then (impl_Scan_verdict.j2 k x1 (x112005 != x112004) x112000 x112001 x112002 x112003 x112004 x112005 x112006 x112007 x112008 x112009 x112010) else (impl_Scan_verdict.j2 k x1 false x112000 x112001 x112002 x112003 x112004 x112005 x112006 x112007 x112008 x112009 x112010))
def impl_Scan_verdict.j2 : Nat → Int → Bool → Int → Int → Int → Int → Int → Int → Bool → Int → Bool → Int → List Int → Option (Int)
 | 0,_,_,_,_,_,_,_,_,_,_,_,_,_ => none
 | k + 1,x1,x25,x112000,x112001,x112002,x112003,x112004,x112005,x112006,x112007,x112008,x112009,x112010 => if x25 = true then (some 5) else (if x112000 = 14 then (if x1 = 0 then (impl_Scan_verdict.j3 k x1 (decide (x112001 > 1)) x112000 x112001 x112002 x112003 x112004 x112005 x112006 x112007 x112008 x112009 x112010) else (impl_Scan_verdict.j3 k x1 false x112000 x112001 x112002 x112003 x112004 x112005 x112006 x112007 x112008 x112009 x112010)) else (some 0))
def impl_Scan_verdict.j3 : Nat → Int → Bool → Int → Int → Int → Int → Int → Int → Bool → Int → Bool → Int → List Int → Option (Int)
 | 0,_,_,_,_,_,_,_,_,_,_,_,_,_ => none
 | k + 1,x1,x40,x112000,x112001,x112002,x112003,x112004,x112005,x112006,x112007,x112008,x112009,x112010 => if x40 = true then (some 4) else (if x1 = 0 then (some 6) else (if x112001 = 2 then (some 1) else (if x112001 = 1 then (some 2) else (some 0))))
end
def impl_fieldAfter.f (a0 : Int) (a1_0 : Bool) (a1_1 : Int) (a1_2 : Bool) (a1_3 : Int) (l1_4 : List Int) : Option (Int):=if a0 = 4 ∧ a1_0 = false then some 7 else if a0 = 8 ∧ (a1_2 = true ∨ a1_3 = 0) then some 10 else if 0 ≤ a0 ∧ a0 < 15 then some (rowsL.getD (a0.toNat * 2 + 1) 0) else none
theorem after_tab (a0 : Int) (a1_0 : Bool) (a1_1 : Int) (a1_2 : Bool) (a1_3 : Int) (A1_4 : Option Addr) (c1_4 n1_4 : Nat) (w : World) (hG : LaidRows w) (c4 : ¬ (a0 = 4 ∧ a1_0 = false)) (c8 : ¬ (a0 = 8 ∧ (a1_2 = true ∨ a1_3 = 0))) (cr : 0 ≤ a0 ∧ a0 < 15) :
  Calls Tryd.prog 32 #[.int .i64 a0, .agg #[.bool a1_0, .int .u32 a1_1, .bool a1_2, .int .i64 a1_3, .slice A1_4 n1_4 c1_4]] w fun e w' => e = .returned (.int .i64 (rowsL.getD (a0.toNat * 2 + 1) 0)) ∧ Below w.heap.size w w':=by
 obtain ⟨n,rfl⟩ : ∃ n : Nat,a0 = (n : Int):=⟨a0.toNat,by omega⟩
 have hcell : w.cell? ⟨0,n * 2 + 1,none⟩ = some (.int .i64 (rowsL.getD (n * 2 + 1) 0)):=hG.at_ (n * 2 + 1) (by omega)
 have p0 : (0 ≤ (n : Int)) = True:=eq_true (by omega)
 have q0 : ((n : Int) < 15) = True:=eq_true (by omega)
 have h0:=hG.pos
 rw [Int.toNat_natCast]
 obtain ⟨R,hR⟩ : ∃ R,rowsL.getD (n * 2 + 1) 0 = R:=⟨_,rfl⟩
 rw [hR] at hcell ⊢
 have cr1:=cr.2
 clear cr hG hR
 by_cases n4 : (n : Int) = 4
 ·have b4 : ((n : Int) == 4) = true:=beq_iff_eq.mpr n4
  have b8 : ((n : Int) == 8) = false:=beq_eq_false_iff_ne.mpr (by omega)
  cases a1_0 with
  | false => exact absurd ⟨n4,rfl⟩ c4
  | true =>
   clear c4 c8 n4 cr1
   go_enter Tryd.func32,Tryd.ntmps32
   go_wp2_with (fail)
   go_ret
   exact ⟨rfl,(Below.refl _ _).alloc (Nat.le_refl _) _⟩
 have b4 : ((n : Int) == 4) = false:=beq_eq_false_iff_ne.mpr n4
 by_cases n8 : (n : Int) = 8
 ·have b8 : ((n : Int) == 8) = true:=beq_iff_eq.mpr n8
  have d3 : ¬ a1_3 = 0:=fun e => c8 ⟨n8, .inr e⟩
  have bd : (a1_3 == 0) = false:=beq_eq_false_iff_ne.mpr d3
  cases a1_2 with
  | true => exact absurd ⟨n8, .inl rfl⟩ c8
  | false =>
   clear c4 c8 n4 n8 cr1 d3
   go_enter Tryd.func32,Tryd.ntmps32
   go_wp2_with (fail)
   go_ret
   exact ⟨rfl,(Below.refl _ _).alloc (Nat.le_refl _) _⟩
 have b8 : ((n : Int) == 8) = false:=beq_eq_false_iff_ne.mpr n8
 clear c4 c8 n4 n8 cr1
 go_enter Tryd.func32,Tryd.ntmps32
 go_wp2_with (fail)
 go_ret
 exact ⟨rfl,(Below.refl _ _).alloc (Nat.le_refl _) _⟩
theorem impl_fieldAfter.calls (a0 : Int) (a1_0 : Bool) (a1_1 : Int) (a1_2 : Bool) (a1_3 : Int) (A1_4 : Option Addr) (c1_4 : Nat) (l1_4 : List Int) (r : Int) (w : World) (hr1_4 : Kd.C (Kd.int .u8) w A1_4 l1_4.length l1_4) (hc1_4 : l1_4.length ≤ c1_4) (h : impl_fieldAfter.f a0 a1_0 a1_1 a1_2 a1_3 l1_4 = some r) (hG : LaidRows w) :
  Calls Tryd.prog 32 #[.int .i64 a0, .agg #[.bool a1_0, .int .u32 a1_1, .bool a1_2, .int .i64 a1_3, .slice A1_4 l1_4.length c1_4]] w fun e w' => e = .returned (.int .i64 r) ∧ Below w.heap.size w w':=by
 unfold impl_fieldAfter.f at h
 clear hr1_4 hc1_4
 by_cases c4 : a0 = 4 ∧ a1_0 = false
 ·obtain ⟨rfl,rfl⟩:=c4
  rw [if_pos ⟨rfl,rfl⟩] at h
  obtain rfl:=Option.some.inj h
  clear h hG
  go_enter Tryd.func32,Tryd.ntmps32
  go_wp2_with (fail)
  go_ret
  exact ⟨rfl,(Below.refl _ _).alloc (Nat.le_refl _) _⟩
 rw [if_neg c4] at h
 by_cases c8 : a0 = 8 ∧ (a1_2 = true ∨ a1_3 = 0)
 ·rw [if_pos c8] at h
  obtain rfl:=Option.some.inj h
  obtain ⟨rfl,c8⟩:=c8
  clear h hG c4
  cases a1_2 with
  | true =>
   go_enter Tryd.func32,Tryd.ntmps32
   go_wp2_with (fail)
   go_ret
   exact ⟨rfl,(Below.refl _ _).alloc (Nat.le_refl _) _⟩
  | false =>
   obtain rfl : a1_3 = 0:=by rcases c8 with h | h;cases h;exact h
   clear c8
   go_enter Tryd.func32,Tryd.ntmps32
   go_wp2_with (fail)
   go_ret
   exact ⟨rfl,(Below.refl _ _).alloc (Nat.le_refl _) _⟩
 rw [if_neg c8] at h
 by_cases cr : 0 ≤ a0 ∧ a0 < 15
 ·rw [if_pos cr] at h
  obtain rfl:=Option.some.inj h
  exact after_tab a0 a1_0 a1_1 a1_2 a1_3 A1_4 c1_4 l1_4.length w hG c4 c8 cr
 ·rw [if_neg cr] at h
  cases h
theorem impl_crcBit.same (a0 : Int) (a1 : Int) (w : World) :
  Calls Tryd.prog 30 #[.int .i64 a0, .int .i64 a1] w fun e w' => e = .returned (.int .i64 (crcI a0 a1)) ∧ w = w':=by
 by_cases c3 : (Go.bits .xor .i64 (Go.bits .and .i64 (a0 / 16384) 1) a1) = 1
 ·have c3b0 : ((Go.bits .xor .i64 (Go.bits .and .i64 (a0 / 16384) 1) a1) == 1) = true:=beq_iff_eq.mpr c3
  have HC:=Lib.hid c3
  clear c3
  go_enter Tryd.func30,Tryd.ntmps30
  go_wp2
  go_ret
  exact ⟨by unfold crcI;rw [if_pos HC.out];rfl,rfl⟩
 ·have c3b0 : ((Go.bits .xor .i64 (Go.bits .and .i64 (a0 / 16384) 1) a1) == 1) = false:=beq_eq_false_iff_ne.mpr c3
  have HC:=Lib.hid c3
  clear c3
  go_enter Tryd.func30,Tryd.ntmps30
  go_wp2
  go_ret
  exact ⟨by unfold crcI;rw [if_neg HC.out];rfl,rfl⟩
end Go.Proofs.YtdoclpgciadjaaaDoor.P
namespace Go.Proofs.YtdoclpgciadjaaaDoor.P
open Go Go.RowKit Go.Proofs.YtdoclpgciadjaaaDoorW.PrintWords
set_option linter.unusedVariables false
def zeroS : SS:=⟨0,0,0,0,0,0,false,0,false,0, []⟩
def sizeF (s : SS) : Int:=if s.field = 7 ∧ s.ext = true then 2 else if s.field = 9 then 8 * (if s.dlc < 8 then s.dlc else 8) else rowsL.getD (s.field.toNat * 2) 0
def afterF (s : SS) : Int:=if s.field = 4 ∧ s.ext = false then 7 else if s.field = 8 ∧ (s.rtr = true ∨ s.dlc = 0) then 10 else rowsL.getD (s.field.toNat * 2 + 1) 0
structure Sound (s : SS) : Prop where
 f0 : 1 ≤ s.field
 f1 : s.field ≤ 14
 i1 : s.id < 536870912
 d0 : 0 ≤ s.dlc
 d1 : s.dlc ≤ 15
 dl : (s.data.length : Int) ≤ 8
 l0 : 1 ≤ s.left
 l1 : s.left ≤ sizeF s
 r0 : 0 ≤ s.run
 r1 : s.run ≤ 5
 v0 : 0 ≤ s.level
 v1 : s.level ≤ 1
 q : s.run = 0 ↔ (s.field = 1 ∨ s.field > 11)
 z : s.run = 0 → s.level = 0
 c0 : 0 ≤ s.crc
 c1 : s.crc ≤ 32767
 a0 : 0 ≤ s.acc
 a1 : s.acc ≤ 32767
 nine : s.field = 9 → s.rtr = false ∧ 0 < s.dlc ∧ (s.data.length : Int) = (sizeF s - s.left + 7) / 8
instance soundDec (s : SS) : Decidable (Sound s) :=
 decidable_of_iff ((1 ≤ s.field) ∧ (s.field ≤ 14) ∧ (s.id < 536870912) ∧ (0 ≤ s.dlc) ∧ (s.dlc ≤ 15) ∧ ((s.data.length : Int) ≤ 8) ∧ (1 ≤ s.left) ∧ (s.left ≤ sizeF s) ∧ (0 ≤ s.run) ∧ (s.run ≤ 5) ∧ (0 ≤ s.level) ∧ (s.level ≤ 1) ∧ (s.run = 0 ↔ (s.field = 1 ∨ s.field > 11)) ∧ (s.run = 0 → s.level = 0) ∧ (0 ≤ s.crc) ∧ (s.crc ≤ 32767) ∧ (0 ≤ s.acc) ∧ (s.acc ≤ 32767) ∧ (s.field = 9 → s.rtr = false ∧ 0 < s.dlc ∧ (s.data.length : Int) = (sizeF s - s.left + 7) / 8)) ⟨fun ⟨f0,f1,i1,d0,d1,dl,l0,l1,r0,r1,v0,v1,q,z,c0,c1,a0,a1,nine⟩ => ⟨f0,f1,i1,d0,d1,dl,l0,l1,r0,r1,v0,v1,q,z,c0,c1,a0,a1,nine⟩,fun h => ⟨h.f0,h.f1,h.i1,h.d0,h.d1,h.dl,h.l0,h.l1,h.r0,h.r1,h.v0,h.v1,h.q,h.z,h.c0,h.c1,h.a0,h.a1,h.nine⟩⟩
theorem sizeF_le {s : SS} (f0 : 1 ≤ s.field) (f1 : s.field ≤ 14) (d0 : 0 ≤ s.dlc) : 0 ≤ sizeF s ∧ sizeF s ≤ 64:=by
 unfold sizeF
 by_cases c7 : s.field = 7 ∧ s.ext = true
 ·rw [if_pos c7];omega
 rw [if_neg c7]
 by_cases c9 : s.field = 9
 ·rw [if_pos c9];split <;> omega
 rw [if_neg c9]
 obtain ⟨n,hn⟩ : ∃ n : Nat,s.field = (n : Int):=⟨s.field.toNat,by omega⟩
 rw [hn,Int.toNat_natCast]
 have h14 : n < 15:=by omega
 have : ∀ m : Fin 15,0 ≤ rowsL.getD (m.val * 2) 0 ∧ rowsL.getD (m.val * 2) 0 ≤ 64:=by decide
 exact this ⟨n,h14⟩
theorem sizeI {s : SS} (f0 : 1 ≤ s.field) (f1 : s.field ≤ 14) (d0 : 0 ≤ s.dlc) (d1 : s.dlc ≤ 15) : impl_fieldSize.f s.field s.ext s.id s.rtr s.dlc s.data = some (sizeF s):=by
 unfold impl_fieldSize.f sizeF
 by_cases c7 : s.field = 7 ∧ s.ext = true
 ·rw [if_pos c7,if_pos c7]
 rw [if_neg c7,if_neg c7]
 by_cases c9 : s.field = 9
 ·rw [if_pos c9,if_pos c9]
  congr 1
  split <;> rw [w64 (by omega) (by omega)]
 rw [if_neg c9,if_neg c9,if_pos (by omega)]
theorem afterI {s : SS} (f0 : 1 ≤ s.field) (f1 : s.field ≤ 14) : impl_fieldAfter.f s.field s.ext s.id s.rtr s.dlc s.data = some (afterF s):=by
 unfold impl_fieldAfter.f afterF
 by_cases c4 : s.field = 4 ∧ s.ext = false
 ·rw [if_pos c4,if_pos c4]
 rw [if_neg c4,if_neg c4]
 by_cases c8 : s.field = 8 ∧ (s.rtr = true ∨ s.dlc = 0)
 ·rw [if_pos c8,if_pos c8]
 rw [if_neg c8,if_neg c8,if_pos (by omega)]
def verdictV (s : SS) (b : Int) : Int :=
 if (s.field = 1 ∧ b = 1) ∨ ((s.field = 11 ∨ s.field = 13) ∧ b = 0) then 4 else if s.field = 13 ∧ s.acc ≠ s.crc then 5 else if s.field ≠ 14 then 0
 else if b = 0 ∧ 1 < s.left then 4 else if b = 0 then 6 else if s.left = 2 then 1 else if s.left = 1 then 2 else 0
def runS (s : SS) (b : Int) : SS:=if s.field > 10 then { s with run:=0,level:=0 } else if 0 < s.run ∧ s.level = b then { s with run:=s.run + 1 } else { s with run:=1,level:=b }
def crcT (s : SS) (b : Int) : SS:=if s.field ≤ 9 then { s with crc:=crcI s.crc b } else s
def enterS (s : SS) (f : Int) : SS:=if f = 9 then { s with field:=f,left:=sizeF { s with field:=f },data := [] } else { s with field:=f,left:=sizeF { s with field:=f } }
def stepS (s : SS) : SS:=if s.left - 1 = 0 then enterS s (afterF s) else { s with left:=s.left - 1 }
def scanV (s : SS) (b : Int) : SS × Int :=
 if Sound s ∧ (b = 0 ∨ b = 1) then
  (if s.run = 5 then (if b = s.level then (zeroS,3) else ({ s with run:=1,level:=b },0))
   else if verdictV s b = 0 ∨ verdictV s b = 1 then (stepS (takeS (crcT (runS s b) b) b),verdictV s b) else (zeroS,verdictV s b))
 else (zeroS,8)
theorem tch_setCells (W : World) (g : Nat) : ∀ (vs : List Value) (o : Nat),Tch W (W.setCells g o vs) (fun k => k = g):=by
 intro vs
 induction vs generalizing W with
 | nil => intro o;exact Tch.refl _ _
 | cons v vs ih => intro o;exact ((Tch.refl1 W g).one o v).trans (ih (W.setCell ⟨g,o,none⟩ v) (o + 1))
theorem setCells_obj {g : Nat} {T : TypeId} : ∀ (vs : List Value) (o : Nat) (W : World) (cs : Array Value),W.heap[g]? = some (.cells cs T (0,0)) → o + vs.length ≤ cs.size →
  (W.setCells g o vs).heap[g]? = some (.cells (cs.toList.take o ++ vs ++ cs.toList.drop (o + vs.length)).toArray T (0,0)):=by
 intro vs
 induction vs with
 | nil =>
  intro o W cs h ho
  show W.heap[g]? = _
  rw [h,List.append_nil,List.length_nil,Nat.add_zero,List.take_append_drop]
 | cons v vs ih =>
  intro o W cs h ho
  rw [List.length_cons] at ho
  show ((W.setCell ⟨g,o,none⟩ v).setCells g (o + 1) vs).heap[g]? = _
  rw [ih (o + 1) _ _ (blk_set h o v) (by rw [Array.size_setIfInBounds];omega)]
  congr 3
  apply List.ext_getElem?
  intro i
  have hl : cs.toList.length = cs.size:=Array.length_toList
  simp only [Array.toList_setIfInBounds,List.getElem?_append,List.length_append,List.length_take,List.length_set,hl,List.length_cons,List.getElem?_take,List.getElem?_drop,List.getElem?_set,List.getElem?_cons]
  by_cases c1 : i < o
  ·rw [if_pos (by omega),if_pos (by omega),if_pos (by omega),if_neg (by omega),if_pos (by omega),if_pos (by omega),if_pos (by omega)]
  ·by_cases c2 : i = o
   ·subst c2
    rw [if_pos (by omega),if_pos (by omega),if_pos (by omega),if_pos rfl,if_pos (by omega),if_pos (by omega),if_neg (by omega),if_pos (by omega)]
   ·by_cases c3 : i < o + 1 + vs.length
    ·rw [if_pos (by omega),if_neg (by omega),if_pos (by omega),if_neg (by omega),if_neg (by omega)]
     congr 1;omega
    ·rw [if_neg (by omega),if_neg (by omega),if_neg (by omega)]
     congr 1;omega
section
variable {P : Program} {ops : Array Oper} {rest : List Oper} {o : Oper} {a : Act} {Q : Exit → Act → World → Prop}
theorem store_box {W : World} (hgd : o.guard = none) {t : TypeId} {p : Tmp} {v : Operand} (ho : o.op = .store t (.tmp p) v) (hN : o.dst = none) {g j : Nat} {cs cs' : Array Value} {T : TypeId} {u : Value} {seg : List Value}
  (hp : a.eval (.tmp p) = .pointer (some ⟨g,j,none⟩)) (hv : a.eval v = u) (hb : W.heap[g]? = some (.cells cs T (0,0))) (hu : u.cells.toList = seg) (ht : (P.info? t).map (·.size) = some seg.length) (h1 : seg.all (·.oneCell') = true) (hj' : Nat.ble (j + seg.length) cs.size = true)
  (hcs : (cs.toList.take j ++ seg ++ cs.toList.drop (j + seg.length)).toArray = cs') (h : ∀ w',w'.heap[g]? = some (.cells cs' T (0,0)) → Tch W w' (fun k => k = g) → wpList P ops Q rest a w') : wpList P ops Q (o :: rest) a W:=by
 have hj : j + seg.length ≤ cs.size:=Nat.le_of_ble_eq_true hj'
 have hrun:=run_store_run (P:=P) (o:=j) t u seg hb hu ht hj (List.all_eq_true.1 h1)
 refine wpList_plain hgd fun K hK => ?_
 unfold Oper.wp execOp
 simp only [ho,hp,hv,Sem.run_bind,Sem.run_pure,Result.andThen_ok,hrun]
 show K (a.put o.dst undef) _
 rw [hN]
 refine hK a _ (h _ ?_ (tch_setCells _ _ _ _))
 rw [setCells_obj seg j W cs hb hj,hcs]
theorem load_box {W : World} (hgd : o.guard = none) {t : TypeId} {p : Tmp} (ho : o.op = .load t (.tmp p)) {g j : Nat} {cs : Array Value} {T : TypeId} {seg : Array Value} {fs : Array Field}
  (hp : a.eval (.tmp p) = .pointer (some ⟨g,j,none⟩)) (hb : W.heap[g]? = some (.cells cs T (0,0))) (hu : P.underlying t = some (.struct fs)) (ht : (P.info? t).map (·.size) = some seg.size) (hs : (cs.toList.drop j).take seg.size = seg.toList)
  (h : wpList P ops Q rest (a.put o.dst (.agg seg)) W) : wpList P ops Q (o :: rest) a W:=by
 refine wpList_load_mid hgd t (.tmp p) ho g j hp seg.toList (.struct fs) (fun i v hi => ?_) hu rfl (by rw [Array.length_toList];exact ht) ?_
 ·rw [blk_cell hb, ← hs] at *
  rw [List.getElem?_take,List.getElem?_drop] at hi
  split at hi
  ·rw [Array.getElem?_toList] at hi;exact hi
  ·cases hi
 ·rw [Array.toArray_toList];exact h
end
theorem Tch.blk {w w' : World} {S : Nat → Prop} {k : Nat} {o : Obj} (h : Tch w w' S) (hk : w.heap[k]? = some o) (hn : ¬ S k) : w'.heap[k]? = some o:=blk_kept hk h.kept hn
section
variable {α : Type} {d : Kd α} {e base g T : Nat} {w w' : World} {ok : Nat → Prop} {v : Value} {xs : List α} {cells : Array Value}
theorem R_tch (h : d.R e w base ok v xs) (hb : w.heap[g]? = some (.cells cells T (0,0))) (ht : ∀ q,q ∈ e :: d.E → q ≠ T) (hT : Tch w w' (fun k => k = g)) : d.R e w' base ok v xs :=
 Kd.R_mono (Kd.R_kept (Kd.R_types h hb ht) hT.kept (fun _ hk => hk.2)) (fun _ hk => hk.1)
end
theorem load_all {P : Program} {ops : Array Oper} {rest : List Oper} {o : Oper} {a : Act} {Q : Exit → Act → World → Prop} {W : World} (hgd : o.guard = none) {t : TypeId} {p : Tmp} (ho : o.op = .load t (.tmp p)) {g : Nat} {C : List Value} {T : TypeId} {fs : Array Field}
  (hp : a.eval (.tmp p) = .pointer (some ⟨g,0,none⟩)) (hb : W.heap[g]? = some (.cells ⟨C⟩ T (0,0))) (hu : P.underlying t = some (.struct fs)) (ht : (P.info? t).map (·.size) = some C.length)
  (h : wpList P ops Q rest (a.put o.dst (.agg ⟨C⟩)) W) : wpList P ops Q (o :: rest) a W :=
 load_box hgd ho (g:=g) (j:=0) (seg:=⟨C⟩) hp hb hu ht (by show (C.drop 0).take C.length = C;rw [List.drop_zero,List.take_length]) h
theorem range_all {W : World} {g : Nat} {C : List Value} {T : TypeId} (hb : W.heap[g]? = some (.cells ⟨C⟩ T (0,0))) : W.rangeAt g 0 C:=fun i v hi => by
 rw [blk_cell hb,Nat.zero_add, ← Array.getElem?_toList];exact hi
theorem store_all {P : Program} {ops : Array Oper} {rest : List Oper} {o : Oper} {a : Act} {Q : Exit → Act → World → Prop} {W : World} (hgd : o.guard = none) {t : TypeId} {p : Tmp} {v : Operand} (ho : o.op = .store t (.tmp p) v) (hN : o.dst = none) {g : Nat} {cs : Array Value} {C : List Value} {T : TypeId}
  (hp : a.eval (.tmp p) = .pointer (some ⟨g,0,none⟩)) (hv : a.eval v = .agg ⟨C⟩) (hb : W.heap[g]? = some (.cells cs T (0,0))) (ht : (P.info? t).map (·.size) = some C.length) (h1 : ∀ u ∈ C,u.oneCell' = true) (hs : cs.size = C.length)
  (h : ∀ w',w'.heap[g]? = some (.cells ⟨C⟩ T (0,0)) → Tch W w' (fun k => k = g) → wpList P ops Q rest a w') : wpList P ops Q (o :: rest) a W :=
 store_box hgd ho hN (g:=g) (j:=0) (cs:=cs) (seg:=C) hp hv hb rfl ht (List.all_eq_true.2 h1) (by rw [Nat.zero_add, ← hs];exact Nat.ble_self_eq_true _) (by
  have hl : cs.toList.length = cs.size:=Array.length_toList
  rw [List.take_zero,List.nil_append,Nat.zero_add,List.drop_of_length_le (by omega),List.append_nil]) h
end Go.Proofs.YtdoclpgciadjaaaDoor.P
namespace Go.Proofs.YtdoclpgciadjaaaDoor.P
open Go Go.RowKit Go.Proofs.YtdoclpgciadjaaaDoorW.PrintWords Go.Proofs.YtdoclpgciadjaaaDoorW.PrintLast Go.Proofs.YtdoclpgciadjaaaDoorW.PrintMore
set_option linter.unusedVariables false
set_option maxRecDepth 100000 in
set_option maxHeartbeats 2000000 in
theorem sound_yes (s : SS) (hs : Sound s) (A : Option Addr) (c : Nat) (w : World) (hr : Kd.C (Kd.int .u8) w A s.data.length s.data) (hc : s.data.length ≤ c) (hG : LaidRows w) :
  Calls Tryd.prog 27 #[.agg (cellsS s (.slice A s.data.length c))] w fun e w' => e = .returned (.bool true) ∧ Below w.heap.size w w':=by
 have HR:=Lib.hid hr
 have HC:=Lib.hid hc
 have HG:=Lib.hid hG
 have HSZ : Hid (impl_fieldSize.f s.field s.ext s.id s.rtr s.dlc s.data = some (sizeF s)):=Lib.hid (sizeI hs.f0 hs.f1 hs.d0 hs.d1)
 have a1 : decide (s.field < 1) = false:=decide_eq_false (by have:=hs.f0;omega)
 have a2 : decide (14 < s.field) = false:=decide_eq_false (by have:=hs.f1;omega)
 have a3 : decide (536870912 ≤ s.id) = false:=decide_eq_false (by have:=hs.i1;omega)
 have a4 : decide (s.dlc < 0) = false:=decide_eq_false (by have:=hs.d0;omega)
 have a5 : decide (15 < s.dlc) = false:=decide_eq_false (by have:=hs.d1;omega)
 have a6 : decide (8 < (s.data.length : Int)) = false:=decide_eq_false (by have:=hs.dl;omega)
 have a7 : decide (8 < s.data.length) = false:=decide_eq_false (by have:=hs.dl;omega)
 have b1 : decide (s.left < 1) = false:=decide_eq_false (by have:=hs.l0;omega)
 have b2 : decide (sizeF s < s.left) = false:=decide_eq_false (by have:=hs.l1;omega)
 have b3 : decide (s.run < 0) = false:=decide_eq_false (by have:=hs.r0;omega)
 have b4 : decide (5 < s.run) = false:=decide_eq_false (by have:=hs.r1;omega)
 have b5 : decide (s.level < 0) = false:=decide_eq_false (by have:=hs.v0;omega)
 have b6 : decide (1 < s.level) = false:=decide_eq_false (by have:=hs.v1;omega)
 have c1 : decide (s.crc < 0) = false:=decide_eq_false (by have:=hs.c0;omega)
 have c2 : decide (32767 < s.crc) = false:=decide_eq_false (by have:=hs.c1;omega)
 have c3 : decide (s.acc < 0) = false:=decide_eq_false (by have:=hs.a0;omega)
 have c4 : decide (32767 < s.acc) = false:=decide_eq_false (by have:=hs.a1;omega)
 have hsz:=(sizeF_le hs.f0 hs.f1 hs.d0).2
 have hq : (s.field = 1 ∧ s.run = 0 ∧ s.level = 0) ∨ (s.field ≠ 1 ∧ 11 < s.field ∧ s.run = 0 ∧ s.level = 0) ∨ (s.field ≠ 1 ∧ ¬ 11 < s.field ∧ s.run ≠ 0 ∧ s.field ≠ 9) ∨ (s.field = 9 ∧ s.run ≠ 0):=by have:=hs.q;have:=hs.z;omega
 have HS:=Lib.hid hs
 clear hr hc hG hs
 unfold cellsS
 rcases hq with hq | hq | hq | hq
 case' inl =>
  have r0 : (s.run == 0) = true:=beq_iff_eq.mpr hq.2.1
  have f1 : (s.field == 1) = true:=beq_iff_eq.mpr hq.1
  have f9 : (s.field != 9) = true:=bne_iff_ne.mpr (by omega)
  have v0 : (s.level != 0) = false:=bne_eq_false_iff_eq.mpr hq.2.2
 case' inr.inl =>
  have r0 : (s.run == 0) = true:=beq_iff_eq.mpr hq.2.2.1
  have f1 : (s.field == 1) = false:=beq_eq_false_iff_ne.mpr hq.1
  have f11 : decide (11 < s.field) = true:=decide_eq_true hq.2.1
  have f9 : (s.field != 9) = true:=bne_iff_ne.mpr (by omega)
  have v0 : (s.level != 0) = false:=bne_eq_false_iff_eq.mpr hq.2.2.2
 case' inr.inr.inl =>
  have r0 : (s.run == 0) = false:=beq_eq_false_iff_ne.mpr hq.2.2.1
  have f1 : (s.field == 1) = false:=beq_eq_false_iff_ne.mpr hq.1
  have f11 : decide (11 < s.field) = false:=decide_eq_false hq.2.1
  have f9 : (s.field != 9) = true:=bne_iff_ne.mpr hq.2.2.2
 case' inr.inr.inr =>
  have r0 : (s.run == 0) = false:=beq_eq_false_iff_ne.mpr hq.2
  have f1 : (s.field == 1) = false:=beq_eq_false_iff_ne.mpr (by omega)
  have f11 : decide (11 < s.field) = false:=decide_eq_false (by omega)
  have f9 : (s.field != 9) = false:=bne_eq_false_iff_eq.mpr hq.1
  have n0:=HS.out.nine hq.1
  have HN1 : Hid (s.rtr = false):=Lib.hid n0.1
  have n2 : decide (0 < s.dlc) = true:=decide_eq_true n0.2.1
  have l0:=HS.out.l0
  have l1:=HS.out.l1
  have e1 : wrap64 (sizeF s - s.left) = sizeF s - s.left:=w64 (by omega) (by omega)
  have e2 : wrap64 (sizeF s - s.left + 7) = sizeF s - s.left + 7:=w64 (by omega) (by omega)
  have e3 : Int.tdiv (sizeF s - s.left + 7) 8 = (s.data.length : Int):=by rw [Int.tdiv_eq_ediv_of_nonneg (by omega)];exact n0.2.2.symm
  have e4 : wrap64 (s.data.length : Int) = (s.data.length : Int):=w64 (by omega) (by omega)
  have i1 : IntKind.i64.wrap (sizeF s - s.left) = sizeF s - s.left:=by rw [IntKind.wrap_i64];omega
  have i2 : IntKind.i64.wrap (sizeF s - s.left + 7) = sizeF s - s.left + 7:=by rw [IntKind.wrap_i64];omega
  have i4 : IntKind.i64.wrap (s.data.length : Int) = (s.data.length : Int):=by rw [IntKind.wrap_i64];omega
  clear n0 l0 l1
 all_goals
  clear hq hsz
  generalize sizeF s = Z at *
  go_enter Tryd.func27,Tryd.ntmps27
  go_upto_region 1 with (first | ((with_reducible refine gate_dst (N:=1) rfl ?_);refine box_event ?hg (N:=1) ?hd (cs := #[.int .i64 s.field, .int .i64 s.left, .int .i64 s.run, .int .i64 s.level, .int .i64 s.crc, .int .i64 s.acc, .bool s.ext, .int .u32 s.id, .bool s.rtr, .int .i64 s.dlc, .slice A s.data.length c]) (t:=31) ?hr ?_;(case hd => rfl);(case hg => rfl);(case hr => first | (go_simp;done) | (go_simp;rfl));intro g hg w1 hbox hb;have HX1 : Hid (w1.heap[g]? = some (objS s (.slice A s.data.length c))):=Lib.hid hbox;have HB1:=Lib.hid hb;clear hg hbox hb))
  have hx0:=cS0 HX1.out;have hx1:=cS1 HX1.out;have hx2:=cS2 HX1.out;have hx3:=cS3 HX1.out;have hx4:=cS4 HX1.out;have hx5:=cS5 HX1.out;have hx6:=cS6 HX1.out;have hx7:=cS7 HX1.out;have hx8:=cS8 HX1.out;have hx9:=cS9 HX1.out;have hx10:=cS10 HX1.out
  go_upto_region 4 with (first | (go_at_call 33;refine (impl_fieldSize.calls s.field s.ext s.id s.rtr s.dlc A c s.data Z _ (Kd.C_below HR.out HB1.out) HC.out HSZ.out (HG.out.next HB1.out)).mono ?_;rintro e w2 ⟨rfl,hb⟩;have HX2:=Lib.hid (blk_below HX1.out hb);have HB2:=Lib.hid (HB1.out.trans (hb.mono HB1.out.size));clear hb hx0 hx1 hx2 hx3 hx4 hx5 hx6 hx7 hx8 hx9 hx10))
  have hx0:=cS0 HX2.out;have hx1:=cS1 HX2.out;have hx2:=cS2 HX2.out;have hx3:=cS3 HX2.out;have hx4:=cS4 HX2.out;have hx5:=cS5 HX2.out;have hx6:=cS6 HX2.out;have hx7:=cS7 HX2.out;have hx8:=cS8 HX2.out;have hx9:=cS9 HX2.out;have hx10:=cS10 HX2.out
  (try have n1:=HN1.out)
  go_wp2_with (fail)
  go_ret
  exact ⟨rfl,HB2.out⟩
set_option maxRecDepth 100000 in
set_option maxHeartbeats 2000000 in
theorem verdict_run (s : SS) (b V : Int) (hb : b = 0 ∨ b = 1) (l0 : 1 ≤ s.left) (hV : verdictV s b = V) (v : Value) (w : World) :
  Calls Tryd.prog 29 #[.agg (cellsS s v), .int .i64 b] w fun e w' => e = .returned (.int .i64 V) ∧ Below w.heap.size w w':=by
 have hf : s.field = 1 ∨ s.field = 11 ∨ s.field = 13 ∨ s.field = 14 ∨ (s.field ≠ 1 ∧ s.field ≠ 11 ∧ s.field ≠ 13 ∧ s.field ≠ 14):=by omega
 have hl : s.left = 1 ∨ s.left = 2 ∨ 2 < s.left:=by omega
 unfold cellsS
 rcases hf with h | h | h | h | h <;> rcases hb with rfl | rfl
 all_goals (first | (have h13 : s.field = 13:=h;rcases Decidable.em (s.acc = s.crc) with k | k) | (have h14 : s.field = 14:=h;rcases hl with k | k | k) | skip)
 all_goals unfold verdictV at hV
 all_goals (repeat' split at hV)
 all_goals (try (exfalso;omega))
 all_goals
  subst hV
  (first | (have F1 : (s.field == 1) = true:=beq_iff_eq.mpr (by omega)) | (have F1 : (s.field == 1) = false:=beq_eq_false_iff_ne.mpr (by omega)))
  (first | (have F2 : (s.field == 11) = true:=beq_iff_eq.mpr (by omega)) | (have F2 : (s.field == 11) = false:=beq_eq_false_iff_ne.mpr (by omega)))
  (first | (have F3 : (s.field == 13) = true:=beq_iff_eq.mpr (by omega)) | (have F3 : (s.field == 13) = false:=beq_eq_false_iff_ne.mpr (by omega)))
  (first | (have F4 : (s.field != 14) = false:=bne_eq_false_iff_eq.mpr (by omega)) | (have F4 : (s.field != 14) = true:=bne_iff_ne.mpr (by omega)))
  (first | (have L1 : decide (1 < s.left) = true:=decide_eq_true (by omega)) | (have L1 : decide (1 < s.left) = false:=decide_eq_false (by omega)) | skip)
  (first | (have E2 : (s.left == 2) = true:=beq_iff_eq.mpr (by omega)) | (have E2 : (s.left == 2) = false:=beq_eq_false_iff_ne.mpr (by omega)) | skip)
  (first | (have E1 : (s.left == 1) = true:=beq_iff_eq.mpr (by omega)) | (have E1 : (s.left == 1) = false:=beq_eq_false_iff_ne.mpr (by omega)) | skip)
  (first | (have AC : (s.acc != s.crc) = true:=bne_iff_ne.mpr (by omega)) | (have AC : (s.acc != s.crc) = false:=bne_eq_false_iff_eq.mpr (by omega)) | skip)
  (try clear h13)
  (try clear h14)
  (try clear hl)
  (try clear k)
  clear h
  go_enter Tryd.func29,Tryd.ntmps29
  go_upto_region 1 with (first | ((with_reducible refine gate_dst (N:=2) rfl ?_);refine box_event ?hg (N:=2) ?hd (cs := #[.int .i64 s.field, .int .i64 s.left, .int .i64 s.run, .int .i64 s.level, .int .i64 s.crc, .int .i64 s.acc, .bool s.ext, .int .u32 s.id, .bool s.rtr, .int .i64 s.dlc,v]) (t:=31) ?hr ?_;(case hd => rfl);(case hg => rfl);(case hr => first | (go_simp;done) | (go_simp;rfl));intro g hg w1 hbox hb;have HX1 : Hid (w1.heap[g]? = some (objS s v)):=Lib.hid hbox;have HB1:=Lib.hid hb;clear hg hbox hb))
  have hx0:=cS0 HX1.out;have hx1:=cS1 HX1.out;have hx4:=cS4 HX1.out;have hx5:=cS5 HX1.out
  go_wp2_with (fail)
  go_ret
  exact ⟨rfl,HB1.out⟩
end Go.Proofs.YtdoclpgciadjaaaDoor.P
namespace Go.Proofs.YtdoclpgciadjaaaDoor.P
open Go.RowKit Go.Proofs.YtdoclpgciadjaaaDoorW.PrintWords Go.Proofs.YtdoclpgciadjaaaDoorW.PrintLast Go.Proofs.YtdoclpgciadjaaaDoorW.PrintMore
set_option linter.unusedVariables false
set_option linter.unusedSimpArgs false
def impl_copyFrame.f (a0_0 : Bool) (a0_1 : Int) (a0_2 : Bool) (a0_3 : Int) (l0_4 : List Int) : Option (Bool × Int × Bool × Int × List Int):=(some (([] : List Int) : List Int)).bind fun y105 => (if y105.length + l0_4.length < 140737488355328 then (some (a0_0,a0_1,a0_2,a0_3,(y105 ++ l0_4))) else (none))
set_option maxHeartbeats 8000000 in
set_option maxRecDepth 100000 in
theorem impl_copyFrame.calls (a0_0 : Bool) (a0_1 : Int) (a0_2 : Bool) (a0_3 : Int) (A0_4 : Option Addr) (c0_4 : Nat) (l0_4 : List Int) (r1 : Bool) (r2 : Int) (r3 : Bool) (r4 : Int) (r5 : List Int) (w : World) (hr0_4 : Kd.C (Kd.int .u8) w A0_4 l0_4.length l0_4) (hc0_4 : l0_4.length ≤ c0_4) (h : impl_copyFrame.f a0_0 a0_1 a0_2 a0_3 l0_4 = some (r1,r2,r3,r4,r5)) :
  Calls Tryd.prog 28 #[.agg #[.bool a0_0, .int .u32 a0_1, .bool a0_2, .int .i64 a0_3, .slice A0_4 l0_4.length c0_4]] w fun e w' => ∃ v4_ : Value,e = .returned (.agg #[.bool r1, .int .u32 r2, .bool r3, .int .i64 r4,v4_]) ∧ Kd.R (Kd.int .u8) 5 w' w.heap.size (fun _ => True) v4_ r5 ∧ Below w.heap.size w w':=by
 have hu29:=Tryd.underlying29
 have HR0_4:=Aside0.mk hr0_4
 have HC0_4:=Aside0.mk hc0_4
 clear hr0_4 hc0_4
 have HB:=Aside0.mk (Below.refl w.heap.size w)
 have H : ((some (([] : List Int) : List Int)).bind fun y105 => (if y105.length + l0_4.length < 140737488355328 then (some (a0_0,a0_1,a0_2,a0_3,(y105 ++ l0_4))) else (none))) = some (r1,r2,r3,r4,r5):=h
 clear h
 obtain ⟨y105,hy105⟩ : ∃ y_ : List Int,y_ = (([] : List Int)):=⟨_,rfl⟩
 replace H : (if y105.length + l0_4.length < 140737488355328 then (some (a0_0,a0_1,a0_2,a0_3,(y105 ++ l0_4))) else (none)) = some (r1,r2,r3,r4,r5):=by first | (rw [hy105];with_reducible exact H) | (have H2_:=(Option.bind_some _ _).symm.trans H;rw [hy105];with_reducible exact H2_) | (have H2_:=(Option.bind_some _ _).symm.trans H;with_reducible exact H2_) | with_reducible exact H | (rw [hy105];exact H) | exact H
 have Ny105:=Aside0.mk hy105
 clear hy105
 by_cases c2 : y105.length + l0_4.length < 140737488355328
 ·rw [if_pos c2] at H
  have LMc2:=Aside0.mk c2
  clear c2
  obtain ⟨y108,hy108⟩ : ∃ y_ : List Int,y_ = (y105 ++ l0_4):=⟨_,rfl⟩
  replace H : (some (a0_0,a0_1,a0_2,a0_3,y108)) = some (r1,r2,r3,r4,r5):=by first | (rw [hy108];with_reducible exact H) | (have H2_:=(Option.bind_some _ _).symm.trans H;rw [hy108];with_reducible exact H2_) | (have H2_:=(Option.bind_some _ _).symm.trans H;with_reducible exact H2_) | with_reducible exact H | (rw [hy108];exact H) | exact H
  have Ny108:=Aside0.mk hy108
  clear hy108
  simp only [Option.some.injEq,Prod.mk.injEq] at H
  obtain ⟨rfl,rfl,rfl,rfl,rfl⟩:=H
  go_enter Tryd.func28,Tryd.ntmps28
  go_wp2_with (first | ((with_reducible refine gate_dst (N:=1) rfl ?_);refine box_event ?hg (N:=1) ?hd (cs := #[.bool a0_0, .int .u32 a0_1, .bool a0_2, .int .i64 a0_3, .slice A0_4 l0_4.length c0_4]) (t:=29) ?hr ?_;(case hd => rfl);(case hg => rfl);(case hr => first | (go_simp;done) | (go_simp;rfl));intro gb103 hg w3 hbox hb;have n0_:=Aside0.mk (below_step (by repeat (first | (with_reducible first | exact HB.out | apply below_alloc | apply pw_below_drewN | apply below_drew1) | exact HB.out)) hb);have n1_:=Aside0.mk (hbox);have n2_:=Aside0.mk ((by rw [hg];exact (below_size (by repeat (first | (with_reducible first | exact HB.out | apply below_alloc | apply pw_below_drewN | apply below_drew1) | exact HB.out))) : w.heap.size ≤ gb103));have n3_:=Aside0.mk ((by rw [hg];exact (below_size (by repeat (first | (with_reducible first | exact HB.out | apply below_alloc | apply pw_below_drewN | apply below_drew1) | exact HB.out))) : w.heap.size ≤ gb103));clear HB;have HB:=n0_;have BK103:=n1_;have GW103:=n2_;have GE103:=n3_;clear n0_ n1_ n2_ n3_;clear hb hbox hg) | ((with_reducible refine gate_dst (N:=2) rfl ?_);refine box_event ?hg (N:=2) ?hd (cs := #[.bool false, .int .u32 0, .bool false, .int .i64 0, .slice none 0 0]) (t:=29) ?hr ?_;(case hd => rfl);(case hg => rfl);(case hr => first | (go_simp;done) | (go_simp;rfl));intro gb104 hg w4 hbox hb;have n0_:=Aside0.mk (blk_below (g:=gb103) (o := .cells #[.bool a0_0, .int .u32 a0_1, .bool a0_2, .int .i64 a0_3, .slice A0_4 l0_4.length c0_4] 29 (0,0)) (by (with_reducible repeat (first | refine blk_drewN ?_ _ | refine blk_drew ?_ | refine blk_alloc ?_ _));exact BK103.out) hb);have n1_:=Aside0.mk (below_step (by repeat (first | (with_reducible first | exact HB.out | apply below_alloc | apply pw_below_drewN | apply below_drew1 | refine below_set ?_ GE103.out) | exact HB.out)) hb);have n2_:=Aside0.mk (hbox);have n3_:=Aside0.mk ((by rw [hg];exact (below_size (by repeat (first | (with_reducible first | exact HB.out | apply below_alloc | apply pw_below_drewN | apply below_drew1 | refine below_set ?_ GE103.out) | exact HB.out))) : w.heap.size ≤ gb104));have n4_:=Aside0.mk ((by rw [hg];exact (below_size (by repeat (first | (with_reducible first | exact HB.out | apply below_alloc | apply pw_below_drewN | apply below_drew1 | refine below_set ?_ GE103.out) | exact HB.out))) : w.heap.size ≤ gb104));have n5_:=Aside0.mk ((by rw [hg];exact Nat.ne_of_lt (blk_lt (g:=gb103) (o := .cells #[.bool a0_0, .int .u32 a0_1, .bool a0_2, .int .i64 a0_3, .slice A0_4 l0_4.length c0_4] 29 (0,0)) (by (with_reducible repeat (first | refine blk_drewN ?_ _ | refine blk_drew ?_ | refine blk_alloc ?_ _));exact BK103.out)) : gb103 ≠ gb104));have n6_:=Aside0.mk ((by rw [hg];exact Nat.ne_of_gt (blk_lt (g:=gb103) (o := .cells #[.bool a0_0, .int .u32 a0_1, .bool a0_2, .int .i64 a0_3, .slice A0_4 l0_4.length c0_4] 29 (0,0)) (by (with_reducible repeat (first | refine blk_drewN ?_ _ | refine blk_drew ?_ | refine blk_alloc ?_ _));exact BK103.out)) : gb104 ≠ gb103));clear BK103;clear HB;have BK103:=n0_;have HB:=n1_;have BK104:=n2_;have GW104:=n3_;have GE104:=n4_;have NB103_104:=n5_;have NB104_103:=n6_;clear n0_ n1_ n2_ n3_ n4_ n5_ n6_;clear hb hbox hg) | ((with_reducible refine gate_dst (N:=3) rfl ?_);refine Kd.R_lit (Kd.int .u8) _ 5 ?hg (N:=3) ?hd (xs:=([] : List Int)) (inner := []) (ok:=fun _ => True) (okp:=fun _ => True) ?hr ?hp (fun _ hk => hk) trivial (Below.refl _ _) (Nat.le_refl _) (by simp) ?_;(case hd => rfl);(case hg => rfl);(case hr => first | (go_simp;done) | (go_simp;rfl));(case hp => exact (Reps.none _ _));intro v106 w5 ho6 hb hg_ hnew_;clear hg_ hnew_;(first | rw [← Ny105.out] at ho6 | (simp only [Int.reduceToNat] at ho6;rw [← Ny105.out] at ho6));have n0_:=Aside0.mk (Kd.R_lower ho6 (below_size (by repeat (first | (with_reducible first | exact HB.out | apply below_alloc | apply pw_below_drewN | apply below_drew1 | refine below_set ?_ GE103.out | refine below_set ?_ GE104.out) | exact HB.out))));have n1_:=Aside0.mk (blk_below (g:=gb103) (o := .cells #[.bool a0_0, .int .u32 a0_1, .bool a0_2, .int .i64 a0_3, .slice A0_4 l0_4.length c0_4] 29 (0,0)) (by (with_reducible repeat (first | refine blk_drewN ?_ _ | refine blk_drew ?_ | refine blk_alloc ?_ _));exact BK103.out) hb);have n2_:=Aside0.mk (blk_below (g:=gb104) (o := .cells #[.bool false, .int .u32 0, .bool false, .int .i64 0, .slice none 0 0] 29 (0,0)) (by (with_reducible repeat (first | refine blk_drewN ?_ _ | refine blk_drew ?_ | refine blk_alloc ?_ _));exact BK104.out) hb);have n3_:=Aside0.mk (below_step (by repeat (first | (with_reducible first | exact HB.out | apply below_alloc | apply pw_below_drewN | apply below_drew1 | refine below_set ?_ GE103.out | refine below_set ?_ GE104.out) | exact HB.out)) hb);clear BK103;clear BK104;clear HB;have HO107:=n0_;have BK103:=n1_;have BK104:=n2_;have HB:=n3_;clear n0_ n1_ n2_ n3_;clear hb ho6;have hnb7:=NB103_104.out;have hnc7:=NB104_103.out;obtain ⟨hcz8_0,hcz8_1,hcz8_2,hcz8_3,hcz8_4⟩:=bc5 BK103.out;obtain ⟨hfz8_0,hfz8_1,hfz8_2,hfz8_3,hfz8_4⟩:=bf5 BK103.out) | ((with_reducible refine gate_builtin (b := .append) (xs := #[.tmp 3, .tmp 5]) rfl ?_);at_builtin;refine Kd.R_append_rows (Kd.int .u8) (w0:=w) w.heap.size rfl (.tmp 3) (.tmp 5) 23 5 (.int .u8 0) 1 rfl Tryd.underlying23 info5 rfl (by decide) (by omega) v106 y105 l0_4 _ _ _ (fun _ => True) (fun _ => False) rfl rfl ?aO ?aR (fun _ _ h => h) (fun _ h => h.elim) ?aF ?aB ?aS ?aL ?_;(case aR => repeat (first | exact (Kd.C_below HR0_4.out HB.out) | (with_reducible refine Kd.C_alloc ?_ _) | (with_reducible refine Kd.C_drewN ?_ _) | (with_reducible refine Kd.C_drew ?_)));(case aB => exact (by repeat (first | (with_reducible first | exact HB.out | apply below_alloc | apply pw_below_drewN | apply below_drew1 | refine below_set ?_ GE103.out | refine below_set ?_ GE104.out) | exact HB.out)));(case aF => exact (fun _ _ => trivial));(case aO => exact (by (with_reducible repeat (first | apply Kd.R_alloc | apply Kd.R_drewN | apply Kd.R_drew));exact HO107.out));(case aS => exact (below_size (by repeat (first | (with_reducible first | exact HB.out | apply below_alloc | apply pw_below_drewN | apply below_drew1 | refine below_set ?_ GE103.out | refine below_set ?_ GE104.out) | exact HB.out))));(case aL => have:=LMc2.out;omega);intro v109 w9 ho hb hg hat;rw [← Ny108.out] at ho;have n0_:=Aside0.mk (blk_grown (g:=gb103) (o := .cells #[.bool a0_0, .int .u32 a0_1, .bool a0_2, .int .i64 a0_3, .slice A0_4 l0_4.length c0_4] 29 (0,0)) (by (with_reducible repeat (first | refine blk_drewN ?_ _ | refine blk_drew ?_ | refine blk_alloc ?_ _));exact BK103.out) hg (Kd.R_ne HO107.out BK103.out (by decide)));have n1_:=Aside0.mk (blk_grown (g:=gb104) (o := .cells #[.bool false, .int .u32 0, .bool false, .int .i64 0, .slice none 0 0] 29 (0,0)) (by (with_reducible repeat (first | refine blk_drewN ?_ _ | refine blk_drew ?_ | refine blk_alloc ?_ _));exact BK104.out) hg (Kd.R_ne HO107.out BK104.out (by decide)));have n2_:=Aside0.mk (hb);have n3_:=Aside0.mk (ho);clear BK103;clear BK104;clear HB;clear HO107;have BK103:=n0_;have BK104:=n1_;have HB:=n2_;have HO110:=n3_;clear n0_ n1_ n2_ n3_;clear ho hb hg hat;obtain ⟨Ao10,co10,eo10⟩:=Kd.R_slice HO110.out;subst eo10;obtain ⟨hcz11_0,hcz11_1,hcz11_2,hcz11_3,hcz11_4⟩:=bc5 BK103.out;obtain ⟨hfz11_0,hfz11_1,hfz11_2,hfz11_3,hfz11_4⟩:=bf5 BK103.out;obtain ⟨hcz12_0,hcz12_1,hcz12_2,hcz12_3,hcz12_4⟩:=bc5 BK104.out;obtain ⟨hfz12_0,hfz12_1,hfz12_2,hfz12_3,hfz12_4⟩:=bf5 BK104.out))
  refine bodyPost_ret (results_cell_row rfl _ _ gb104 29 #[.bool a0_0, .int .u32 a0_1, .bool a0_2, .int .i64 a0_3, .slice Ao10 y108.length co10] (0,0) _ rfl (by (with_reducible repeat (first | refine blk_drewN ?_ _ | refine blk_drew ?_ | refine blk_alloc ?_ _));refine blk_put (cs := #[.bool a0_0, .int .u32 a0_1, .bool a0_2, .int .i64 a0_3, .slice none 0 0]) ?_ 4 _ rfl;(with_reducible repeat (first | refine blk_drewN ?_ _ | refine blk_drew ?_ | refine blk_alloc ?_ _));refine blk_put (cs := #[.bool a0_0, .int .u32 a0_1, .bool a0_2, .int .i64 0, .slice none 0 0]) ?_ 3 _ rfl;(with_reducible repeat (first | refine blk_drewN ?_ _ | refine blk_drew ?_ | refine blk_alloc ?_ _));refine blk_put (cs := #[.bool a0_0, .int .u32 a0_1, .bool false, .int .i64 0, .slice none 0 0]) ?_ 2 _ rfl;(with_reducible repeat (first | refine blk_drewN ?_ _ | refine blk_drew ?_ | refine blk_alloc ?_ _));refine blk_put (cs := #[.bool a0_0, .int .u32 0, .bool false, .int .i64 0, .slice none 0 0]) ?_ 1 _ rfl;(with_reducible repeat (first | refine blk_drewN ?_ _ | refine blk_drew ?_ | refine blk_alloc ?_ _));refine blk_put (cs := #[.bool false, .int .u32 0, .bool false, .int .i64 0, .slice none 0 0]) ?_ 0 _ rfl;(with_reducible repeat (first | refine blk_drewN ?_ _ | refine blk_drew ?_ | refine blk_alloc ?_ _));refine blk_far ?_ NB104_103.out _;(with_reducible repeat (first | refine blk_drewN ?_ _ | refine blk_drew ?_ | refine blk_alloc ?_ _));exact BK104.out) Tryd.underlying29 rfl (by kernel_rfl)) rfl ?_
  exact ⟨_,by first | rfl | (simp [errW_none,errW_some] <;> rfl) | (simp [*,errW_none,errW_some] <;> rfl),by (with_reducible repeat (first | apply Kd.R_alloc | apply Kd.R_drewN | apply Kd.R_drew));exact Kd.R_mono (Kd.R_far (p:=⟨gb104,4,none⟩) (Kd.R_far (p:=⟨gb104,3,none⟩) (Kd.R_far (p:=⟨gb104,2,none⟩) (Kd.R_far (p:=⟨gb104,1,none⟩) (Kd.R_far (p:=⟨gb104,0,none⟩) (Kd.R_far (p:=⟨gb103,4,none⟩) (Kd.R_types (Kd.R_types HO110.out BK103.out (by decide)) BK104.out (by decide)) (fun _ hk => hk.1.2) (.slice Ao10 y108.length co10)) (fun _ hk => hk.2) (.bool a0_0)) (fun _ hk => hk.2) (.int .u32 a0_1)) (fun _ hk => hk.2) (.bool a0_2)) (fun _ hk => hk.2) (.int .i64 a0_3)) (fun _ hk => hk.2) (.slice Ao10 y108.length co10)) (fun _ hk => trivial),by repeat (first | (with_reducible first | exact HB.out | apply below_alloc | apply pw_below_drewN | apply below_drew1 | refine below_set ?_ GE103.out | refine below_set ?_ GE104.out) | exact HB.out)⟩
 ·rw [if_neg c2] at H
  exact absurd H (by simp)
theorem splain_2_0 (p : Nat) (v : Value) (s : SS) (S : Nat → Prop) (w0 w : World) (hi : SIn w0 w p S s v) (hpl : w0.heap.size ≤ p) (hS : ¬ S p) (ok : SOk s) (hfld : s.field = 2) :
  Calls Tryd.prog 31 #[.pointer (some ⟨p,0,none⟩), .int .i64 0] w (EndS w0 w p S (takeS s 0)):=by
 have HI:=Lib.hid hi
 have OK:=Lib.hid ok
 have hp:=hi.obj
 have hc0:=cS0 hp
 have hc7:=cS7 hp
 have hf7:=fS hp 7
 have HL : Hid (takeS s 0 = { s with id:=Go.bits .and .u32 (Go.bits .or .u32 (s.id * 2 % 4294967296) 0) 536870911 }):=Lib.hid (by unfold takeS;rw [if_pos (by omega),or_and_u32 s.id 0 ok.i0 ok.i1 (by omega)])
 rw [hfld] at hc0
 clear hi ok hp
 go_enter Tryd.func31,Tryd.ntmps31
 go_wp2_with (fail)
 go_end0
 rw [HL.out]
 exact ⟨rfl,⟨v,setS7 HI.out.obj _,row_setS HI.out.row hS _ _⟩,(Tch.refl _ _).setCell (.inl (.inl rfl)) _⟩
theorem splain_2_1 (p : Nat) (v : Value) (s : SS) (S : Nat → Prop) (w0 w : World) (hi : SIn w0 w p S s v) (hpl : w0.heap.size ≤ p) (hS : ¬ S p) (ok : SOk s) (hfld : s.field = 2) :
  Calls Tryd.prog 31 #[.pointer (some ⟨p,0,none⟩), .int .i64 1] w (EndS w0 w p S (takeS s 1)):=by
 have HI:=Lib.hid hi
 have OK:=Lib.hid ok
 have hp:=hi.obj
 have hc0:=cS0 hp
 have hc7:=cS7 hp
 have hf7:=fS hp 7
 have HL : Hid (takeS s 1 = { s with id:=Go.bits .and .u32 (Go.bits .or .u32 (s.id * 2 % 4294967296) 1) 536870911 }):=Lib.hid (by unfold takeS;rw [if_pos (by omega),or_and_u32 s.id 1 ok.i0 ok.i1 (by omega)])
 rw [hfld] at hc0
 clear hi ok hp
 go_enter Tryd.func31,Tryd.ntmps31
 go_wp2_with (fail)
 go_end0
 rw [HL.out]
 exact ⟨rfl,⟨v,setS7 HI.out.obj _,row_setS HI.out.row hS _ _⟩,(Tch.refl _ _).setCell (.inl (.inl rfl)) _⟩
theorem splain_5_0 (p : Nat) (v : Value) (s : SS) (S : Nat → Prop) (w0 w : World) (hi : SIn w0 w p S s v) (hpl : w0.heap.size ≤ p) (hS : ¬ S p) (ok : SOk s) (hfld : s.field = 5) :
  Calls Tryd.prog 31 #[.pointer (some ⟨p,0,none⟩), .int .i64 0] w (EndS w0 w p S (takeS s 0)):=by
 have HI:=Lib.hid hi
 have OK:=Lib.hid ok
 have hp:=hi.obj
 have hc0:=cS0 hp
 have hc7:=cS7 hp
 have hf7:=fS hp 7
 have HL : Hid (takeS s 0 = { s with id:=Go.bits .and .u32 (Go.bits .or .u32 (s.id * 2 % 4294967296) 0) 536870911 }):=Lib.hid (by unfold takeS;rw [if_pos (by omega),or_and_u32 s.id 0 ok.i0 ok.i1 (by omega)])
 rw [hfld] at hc0
 clear hi ok hp
 go_enter Tryd.func31,Tryd.ntmps31
 go_wp2_with (fail)
 go_end0
 rw [HL.out]
 exact ⟨rfl,⟨v,setS7 HI.out.obj _,row_setS HI.out.row hS _ _⟩,(Tch.refl _ _).setCell (.inl (.inl rfl)) _⟩
theorem splain_5_1 (p : Nat) (v : Value) (s : SS) (S : Nat → Prop) (w0 w : World) (hi : SIn w0 w p S s v) (hpl : w0.heap.size ≤ p) (hS : ¬ S p) (ok : SOk s) (hfld : s.field = 5) :
  Calls Tryd.prog 31 #[.pointer (some ⟨p,0,none⟩), .int .i64 1] w (EndS w0 w p S (takeS s 1)):=by
 have HI:=Lib.hid hi
 have OK:=Lib.hid ok
 have hp:=hi.obj
 have hc0:=cS0 hp
 have hc7:=cS7 hp
 have hf7:=fS hp 7
 have HL : Hid (takeS s 1 = { s with id:=Go.bits .and .u32 (Go.bits .or .u32 (s.id * 2 % 4294967296) 1) 536870911 }):=Lib.hid (by unfold takeS;rw [if_pos (by omega),or_and_u32 s.id 1 ok.i0 ok.i1 (by omega)])
 rw [hfld] at hc0
 clear hi ok hp
 go_enter Tryd.func31,Tryd.ntmps31
 go_wp2_with (fail)
 go_end0
 rw [HL.out]
 exact ⟨rfl,⟨v,setS7 HI.out.obj _,row_setS HI.out.row hS _ _⟩,(Tch.refl _ _).setCell (.inl (.inl rfl)) _⟩
theorem splain_3_0 (p : Nat) (v : Value) (s : SS) (S : Nat → Prop) (w0 w : World) (hi : SIn w0 w p S s v) (hpl : w0.heap.size ≤ p) (hS : ¬ S p) (ok : SOk s) (hfld : s.field = 3) :
  Calls Tryd.prog 31 #[.pointer (some ⟨p,0,none⟩), .int .i64 0] w (EndS w0 w p S (takeS s 0)):=by
 have HI:=Lib.hid hi
 have OK:=Lib.hid ok
 have hp:=hi.obj
 have hc0:=cS0 hp
 have hc8:=cS8 hp
 have hf8:=fS hp 8
 have HL : Hid (takeS s 0 = { s with rtr:=false }):=Lib.hid (by unfold takeS;rw [if_neg (by omega),if_pos (by omega)];rfl)
 rw [hfld] at hc0
 clear hi ok hp
 go_enter Tryd.func31,Tryd.ntmps31
 go_wp2_with (fail)
 go_end0
 rw [HL.out]
 exact ⟨rfl,⟨v,setS8 HI.out.obj _,row_setS HI.out.row hS _ _⟩,(Tch.refl _ _).setCell (.inl (.inl rfl)) _⟩
theorem splain_3_1 (p : Nat) (v : Value) (s : SS) (S : Nat → Prop) (w0 w : World) (hi : SIn w0 w p S s v) (hpl : w0.heap.size ≤ p) (hS : ¬ S p) (ok : SOk s) (hfld : s.field = 3) :
  Calls Tryd.prog 31 #[.pointer (some ⟨p,0,none⟩), .int .i64 1] w (EndS w0 w p S (takeS s 1)):=by
 have HI:=Lib.hid hi
 have OK:=Lib.hid ok
 have hp:=hi.obj
 have hc0:=cS0 hp
 have hc8:=cS8 hp
 have hf8:=fS hp 8
 have HL : Hid (takeS s 1 = { s with rtr:=true }):=Lib.hid (by unfold takeS;rw [if_neg (by omega),if_pos (by omega)];rfl)
 rw [hfld] at hc0
 clear hi ok hp
 go_enter Tryd.func31,Tryd.ntmps31
 go_wp2_with (fail)
 go_end0
 rw [HL.out]
 exact ⟨rfl,⟨v,setS8 HI.out.obj _,row_setS HI.out.row hS _ _⟩,(Tch.refl _ _).setCell (.inl (.inl rfl)) _⟩
theorem splain_6_0 (p : Nat) (v : Value) (s : SS) (S : Nat → Prop) (w0 w : World) (hi : SIn w0 w p S s v) (hpl : w0.heap.size ≤ p) (hS : ¬ S p) (ok : SOk s) (hfld : s.field = 6) :
  Calls Tryd.prog 31 #[.pointer (some ⟨p,0,none⟩), .int .i64 0] w (EndS w0 w p S (takeS s 0)):=by
 have HI:=Lib.hid hi
 have OK:=Lib.hid ok
 have hp:=hi.obj
 have hc0:=cS0 hp
 have hc8:=cS8 hp
 have hf8:=fS hp 8
 have HL : Hid (takeS s 0 = { s with rtr:=false }):=Lib.hid (by unfold takeS;rw [if_neg (by omega),if_pos (by omega)];rfl)
 rw [hfld] at hc0
 clear hi ok hp
 go_enter Tryd.func31,Tryd.ntmps31
 go_wp2_with (fail)
 go_end0
 rw [HL.out]
 exact ⟨rfl,⟨v,setS8 HI.out.obj _,row_setS HI.out.row hS _ _⟩,(Tch.refl _ _).setCell (.inl (.inl rfl)) _⟩
theorem splain_6_1 (p : Nat) (v : Value) (s : SS) (S : Nat → Prop) (w0 w : World) (hi : SIn w0 w p S s v) (hpl : w0.heap.size ≤ p) (hS : ¬ S p) (ok : SOk s) (hfld : s.field = 6) :
  Calls Tryd.prog 31 #[.pointer (some ⟨p,0,none⟩), .int .i64 1] w (EndS w0 w p S (takeS s 1)):=by
 have HI:=Lib.hid hi
 have OK:=Lib.hid ok
 have hp:=hi.obj
 have hc0:=cS0 hp
 have hc8:=cS8 hp
 have hf8:=fS hp 8
 have HL : Hid (takeS s 1 = { s with rtr:=true }):=Lib.hid (by unfold takeS;rw [if_neg (by omega),if_pos (by omega)];rfl)
 rw [hfld] at hc0
 clear hi ok hp
 go_enter Tryd.func31,Tryd.ntmps31
 go_wp2_with (fail)
 go_end0
 rw [HL.out]
 exact ⟨rfl,⟨v,setS8 HI.out.obj _,row_setS HI.out.row hS _ _⟩,(Tch.refl _ _).setCell (.inl (.inl rfl)) _⟩
theorem splain_4_0 (p : Nat) (v : Value) (s : SS) (S : Nat → Prop) (w0 w : World) (hi : SIn w0 w p S s v) (hpl : w0.heap.size ≤ p) (hS : ¬ S p) (ok : SOk s) (hfld : s.field = 4) :
  Calls Tryd.prog 31 #[.pointer (some ⟨p,0,none⟩), .int .i64 0] w (EndS w0 w p S (takeS s 0)):=by
 have HI:=Lib.hid hi
 have OK:=Lib.hid ok
 have hp:=hi.obj
 have hc0:=cS0 hp
 have hc6:=cS6 hp
 have hf6:=fS hp 6
 have hc8:=cS8 hp
 have hf8:=fS hp 8
 have HL : Hid (takeS s 0 = { s with ext:=false }):=Lib.hid (by unfold takeS;rw [if_neg (by omega),if_neg (by omega),if_pos hfld];rfl)
 rw [hfld] at hc0
 clear hi ok hp
 go_enter Tryd.func31,Tryd.ntmps31
 go_wp2_with (fail)
 go_end0
 rw [HL.out]
 exact ⟨rfl,⟨v,setS6 HI.out.obj _,row_setS HI.out.row hS _ _⟩,(Tch.refl _ _).setCell (.inl (.inl rfl)) _⟩
theorem splain_4_1 (p : Nat) (v : Value) (s : SS) (S : Nat → Prop) (w0 w : World) (hi : SIn w0 w p S s v) (hpl : w0.heap.size ≤ p) (hS : ¬ S p) (ok : SOk s) (hfld : s.field = 4) :
  Calls Tryd.prog 31 #[.pointer (some ⟨p,0,none⟩), .int .i64 1] w (EndS w0 w p S (takeS s 1)):=by
 have HI:=Lib.hid hi
 have OK:=Lib.hid ok
 have hp:=hi.obj
 have hc0:=cS0 hp
 have hc6:=cS6 hp
 have hf6:=fS hp 6
 have hc8:=cS8 hp
 have hf8:=fS hp 8
 have HL : Hid (takeS s 1 = { s with ext:=true,rtr:=false }):=Lib.hid (by unfold takeS;rw [if_neg (by omega),if_neg (by omega),if_pos hfld];rfl)
 rw [hfld] at hc0
 clear hi ok hp
 go_enter Tryd.func31,Tryd.ntmps31
 go_wp2_with (fail)
 go_end0
 rw [HL.out]
 exact ⟨rfl,⟨v,setS8 (setS6 HI.out.obj _) _,row_setS (row_setS HI.out.row hS _ _) hS _ _⟩,((Tch.refl _ _).setCell (.inl (.inl rfl)) _).setCell (.inl (.inl rfl)) _⟩
theorem splain_8_0 (p : Nat) (v : Value) (s : SS) (S : Nat → Prop) (w0 w : World) (hi : SIn w0 w p S s v) (hpl : w0.heap.size ≤ p) (hS : ¬ S p) (ok : SOk s) (hfld : s.field = 8) :
  Calls Tryd.prog 31 #[.pointer (some ⟨p,0,none⟩), .int .i64 0] w (EndS w0 w p S (takeS s 0)):=by
 have HI:=Lib.hid hi
 have OK:=Lib.hid ok
 have hp:=hi.obj
 have hc0:=cS0 hp
 have hc9:=cS9 hp
 have hf9:=fS hp 9
 have HL : Hid (takeS s 0 = { s with dlc:=Go.bits .and .i64 (Go.bits .or .i64 (wrap64 (s.dlc * 2)) 0) 15 }):=Lib.hid (by unfold takeS;rw [if_neg (by omega),if_neg (by omega),if_neg (by omega),if_pos hfld];have:=or_and_i64 s.dlc 0 4 (by decide) ok.d0 (by have:=ok.d1;omega) (by omega);rw [show ((2 ^ 4 - 1 : Nat) : Int) = 15 from rfl,show ((2 ^ 4 : Nat) : Int) = 16 from rfl] at this;rw [this])
 rw [hfld] at hc0
 clear hi ok hp
 go_enter Tryd.func31,Tryd.ntmps31
 go_wp2_with (fail)
 go_end0
 rw [HL.out]
 exact ⟨rfl,⟨v,setS9 HI.out.obj _,row_setS HI.out.row hS _ _⟩,(Tch.refl _ _).setCell (.inl (.inl rfl)) _⟩
theorem splain_10_0 (p : Nat) (v : Value) (s : SS) (S : Nat → Prop) (w0 w : World) (hi : SIn w0 w p S s v) (hpl : w0.heap.size ≤ p) (hS : ¬ S p) (ok : SOk s) (hfld : s.field = 10) :
  Calls Tryd.prog 31 #[.pointer (some ⟨p,0,none⟩), .int .i64 0] w (EndS w0 w p S (takeS s 0)):=by
 have HI:=Lib.hid hi
 have OK:=Lib.hid ok
 have hp:=hi.obj
 have hc0:=cS0 hp
 have hc5:=cS5 hp
 have hf5:=fS hp 5
 have HL : Hid (takeS s 0 = { s with acc:=Go.bits .and .i64 (Go.bits .or .i64 (wrap64 (s.acc * 2)) 0) 32767 }):=Lib.hid (by unfold takeS;rw [if_neg (by omega),if_neg (by omega),if_neg (by omega),if_neg (by omega),if_neg (by omega),if_pos hfld];have:=or_and_i64 s.acc 0 15 (by decide) ok.a0 (by have:=ok.a1;omega) (by omega);rw [show ((2 ^ 15 - 1 : Nat) : Int) = 32767 from rfl,show ((2 ^ 15 : Nat) : Int) = 32768 from rfl] at this;rw [this])
 rw [hfld] at hc0
 clear hi ok hp
 go_enter Tryd.func31,Tryd.ntmps31
 go_wp2_with (fail)
 go_end0
 rw [HL.out]
 exact ⟨rfl,⟨v,setS5 HI.out.obj _,row_setS HI.out.row hS _ _⟩,(Tch.refl _ _).setCell (.inl (.inl rfl)) _⟩
theorem splain_8_1 (p : Nat) (v : Value) (s : SS) (S : Nat → Prop) (w0 w : World) (hi : SIn w0 w p S s v) (hpl : w0.heap.size ≤ p) (hS : ¬ S p) (ok : SOk s) (hfld : s.field = 8) :
  Calls Tryd.prog 31 #[.pointer (some ⟨p,0,none⟩), .int .i64 1] w (EndS w0 w p S (takeS s 1)):=by
 have HI:=Lib.hid hi
 have OK:=Lib.hid ok
 have hp:=hi.obj
 have hc0:=cS0 hp
 have hc9:=cS9 hp
 have hf9:=fS hp 9
 have HL : Hid (takeS s 1 = { s with dlc:=Go.bits .and .i64 (Go.bits .or .i64 (wrap64 (s.dlc * 2)) 1) 15 }):=Lib.hid (by unfold takeS;rw [if_neg (by omega),if_neg (by omega),if_neg (by omega),if_pos hfld];have:=or_and_i64 s.dlc 1 4 (by decide) ok.d0 (by have:=ok.d1;omega) (by omega);rw [show ((2 ^ 4 - 1 : Nat) : Int) = 15 from rfl,show ((2 ^ 4 : Nat) : Int) = 16 from rfl] at this;rw [this])
 rw [hfld] at hc0
 clear hi ok hp
 go_enter Tryd.func31,Tryd.ntmps31
 go_wp2_with (fail)
 go_end0
 rw [HL.out]
 exact ⟨rfl,⟨v,setS9 HI.out.obj _,row_setS HI.out.row hS _ _⟩,(Tch.refl _ _).setCell (.inl (.inl rfl)) _⟩
theorem splain_10_1 (p : Nat) (v : Value) (s : SS) (S : Nat → Prop) (w0 w : World) (hi : SIn w0 w p S s v) (hpl : w0.heap.size ≤ p) (hS : ¬ S p) (ok : SOk s) (hfld : s.field = 10) :
  Calls Tryd.prog 31 #[.pointer (some ⟨p,0,none⟩), .int .i64 1] w (EndS w0 w p S (takeS s 1)):=by
 have HI:=Lib.hid hi
 have OK:=Lib.hid ok
 have hp:=hi.obj
 have hc0:=cS0 hp
 have hc5:=cS5 hp
 have hf5:=fS hp 5
 have HL : Hid (takeS s 1 = { s with acc:=Go.bits .and .i64 (Go.bits .or .i64 (wrap64 (s.acc * 2)) 1) 32767 }):=Lib.hid (by unfold takeS;rw [if_neg (by omega),if_neg (by omega),if_neg (by omega),if_neg (by omega),if_neg (by omega),if_pos hfld];have:=or_and_i64 s.acc 1 15 (by decide) ok.a0 (by have:=ok.a1;omega) (by omega);rw [show ((2 ^ 15 - 1 : Nat) : Int) = 32767 from rfl,show ((2 ^ 15 : Nat) : Int) = 32768 from rfl] at this;rw [this])
 rw [hfld] at hc0
 clear hi ok hp
 go_enter Tryd.func31,Tryd.ntmps31
 go_wp2_with (fail)
 go_end0
 rw [HL.out]
 exact ⟨rfl,⟨v,setS5 HI.out.obj _,row_setS HI.out.row hS _ _⟩,(Tch.refl _ _).setCell (.inl (.inl rfl)) _⟩
theorem splain_other (p : Nat) (v : Value) (s : SS) (b : Int) (S : Nat → Prop) (w0 w : World) (hi : SIn w0 w p S s v) (hS : ¬ S p) (hfld : s.field ≠ 2 ∧ s.field ≠ 5 ∧ s.field ≠ 3 ∧ s.field ≠ 6 ∧ s.field ≠ 4 ∧ s.field ≠ 8 ∧ s.field ≠ 9 ∧ s.field ≠ 10) :
  Calls Tryd.prog 31 #[.pointer (some ⟨p,0,none⟩), .int .i64 b] w (EndS w0 w p S (takeS s b)):=by
 obtain ⟨h2,h5,h3,h6,h4,h8,h9,h10⟩:=hfld
 have HL : Hid (takeS s b = s):=Lib.hid (by unfold takeS;rw [if_neg (by omega),if_neg (by omega),if_neg h4,if_neg h8,if_neg h9,if_neg h10])
 have HI:=Lib.hid hi
 have hc0:=cS0 hi.obj
 have b2 : (s.field == 2) = false:=beq_eq_false_iff_ne.mpr h2
 have b5 : (s.field == 5) = false:=beq_eq_false_iff_ne.mpr h5
 have b3 : (s.field == 3) = false:=beq_eq_false_iff_ne.mpr h3
 have b6 : (s.field == 6) = false:=beq_eq_false_iff_ne.mpr h6
 have b4 : (s.field == 4) = false:=beq_eq_false_iff_ne.mpr h4
 have b8 : (s.field == 8) = false:=beq_eq_false_iff_ne.mpr h8
 have b9 : (s.field == 9) = false:=beq_eq_false_iff_ne.mpr h9
 have b10 : (s.field == 10) = false:=beq_eq_false_iff_ne.mpr h10
 clear hi h2 h5 h3 h6 h4 h8 h9 h10
 go_enter Tryd.func31,Tryd.ntmps31
 go_wp2_with (fail)
 go_end0
 rw [HL.out]
 exact ⟨rfl,⟨v,HI.out.obj,HI.out.row⟩,Tch.refl _ _⟩
set_option maxHeartbeats 1000000 in
set_option maxRecDepth 100000 in
theorem splain_9_0_app (p : Nat) (v : Value) (s : SS) (S : Nat → Prop) (w0 w : World) (hi : SIn w0 w p S s v) (hpl : w0.heap.size ≤ p) (hS : ¬ S p) (ok : SOk s) (hfld : s.field = 9) (hm8 : s.left % 8 = 0) :
  Calls Tryd.prog 31 #[.pointer (some ⟨p,0,none⟩), .int .i64 0] w (EndS w0 w p S (takeS s 0)):=by
 have HI:=Lib.hid hi
 have OK:=Lib.hid ok
 have HF:=Lib.hid hfld
 have hp:=hi.obj
 have hc0:=cS0 hp
 have hc1:=cS1 hp
 have hc10:=cS10 hp
 have hf10:=fS hp 10
 have l0:=ok.l0
 have l1:=ok.l1
 have hdl:=ok.dl
 have hm : (Int.tmod s.left 8 == 0) = true:=by rw [Int.tmod_eq_emod_of_nonneg (by omega)];simp;omega
 have hm2 : (s.left % 8 == 0) = true:=by simp;omega
 have HL : Hid (takeS s 0 = { s with data:=dataS s 0 }):=Lib.hid (by unfold takeS;rw [if_neg (by omega),if_neg (by omega),if_neg (by omega),if_neg (by omega),if_pos hfld])
 have HHM:=Lib.hid hm8
 rw [hfld] at hc0
 clear hi ok hp hfld hm8
 go_enter Tryd.func31,Tryd.ntmps31
 go_wp2_with (at_builtin;go_loud (refine Kd.R_append (Kd.int .u8) (w0:=w0) w0.heap.size rfl (.tmp 80) (.tmp 81) 23 5 (.int .u8 0) 1 rfl Tryd.underlying23 infoU8s rfl (by decide) (by omega) v s.data 0 [.int .u8 0] S (fun _ => False) rfl rfl ?aP (fun _ hk => hk.elim) HI.out.fresh ?aO ?aB ?aS ?aL ?_;(case aP => exact rfl);(case aO => exact HI.out.row);(case aB => exact HI.out.below);(case aS => exact HI.out.below.size);(case aL => omega);intro v1 w1 ho hb hg hat;obtain ⟨g,c1,e1,hpk⟩:=s9_append HI.out.obj HI.out.row hS ho hg;subst e1;have HPK:=Lib.hid hpk;clear ho hb hg hat hc0 hc1 hc10 hf10 hpk;obtain ⟨hgp,hpg,p5,q5,hx0,hfx0,hc10,hf10⟩:=S9At.facts HPK.out hS (by omega)))
 go_quiet (fail)
 have HPK4:=Lib.hid (s9_draw (s9_mid (V := .slice (some ⟨g,0,none⟩) (s.data.length + 1) c1) HPK.out hS) nq)
 clear hgp hpg p5 q5 hx0 hfx0 hc10 hf10
 generalize World.drewN _ nq = W4 at HPK4 ⊢
 obtain ⟨-, -, -, -,hx4,hfx4, -, -⟩:=S9At.facts HPK4.out hS (by omega)
 have HPUT:=Lib.hid (s9_put HPK4.out hS (Go.bits .or .u8 (rd (s.data ++ [0]) (s.data.length : Int) * 2 % 256) 0))
 go_wp2_with (fail)
 go_end0
 rw [HL.out,data9_eq s 0 (by omega) (s.data ++ [0]) s.data.length (by rw [if_pos HHM.out]) (by simp) (rd_rangeS (fun x hx => by rcases List.mem_append.1 hx with h | h;exact OK.out.by_ x h;rw [List.mem_singleton] at h;omega) _)]
 exact ⟨rfl,⟨_,HPUT.out.obj,HPUT.out.row⟩,HPUT.out.tch⟩
set_option maxHeartbeats 1000000 in
set_option maxRecDepth 100000 in
theorem splain_9_0_in (p : Nat) (v : Value) (s : SS) (S : Nat → Prop) (w0 w : World) (hi : SIn w0 w p S s v) (hpl : w0.heap.size ≤ p) (hS : ¬ S p) (ok : SOk s) (hfld : s.field = 9) (hm8 : ¬ s.left % 8 = 0) :
  Calls Tryd.prog 31 #[.pointer (some ⟨p,0,none⟩), .int .i64 0] w (EndS w0 w p S (takeS s 0)):=by
 have HI:=Lib.hid hi
 have OK:=Lib.hid ok
 have HF:=Lib.hid hfld
 have hp:=hi.obj
 have hc0:=cS0 hp
 have hc1:=cS1 hp
 have l0:=ok.l0
 have l1:=ok.l1
 have hdl:=ok.dl
 have hm : (Int.tmod s.left 8 == 0) = false:=by rw [Int.tmod_eq_emod_of_nonneg (by omega)];simp;omega
 have hm2 : (s.left % 8 == 0) = false:=by simp;omega
 have HL : Hid (takeS s 0 = { s with data:=dataS s 0 }):=Lib.hid (by unfold takeS;rw [if_neg (by omega),if_neg (by omega),if_neg (by omega),if_neg (by omega),if_pos hfld])
 have HHM:=Lib.hid hm8
 obtain ⟨m,hm0⟩ : ∃ m,s.data.length = m + 1:=⟨s.data.length - 1,by have h1:=ok.ne hfld hm8;have:=List.length_pos_iff.2 h1;omega⟩
 obtain ⟨g,c1,e1,hpk⟩:=s9_same hp hi.row hm0
 subst e1
 have HPK:=Lib.hid hpk
 have HM0:=Lib.hid hm0
 have hmb : m < 1000:=by omega
 rw [hfld] at hc0
 clear hi ok hp hfld hm8 hpk hm0
 obtain ⟨hgp,hpg,p5,q5,hx0,hfx0,hc10b,hf10b⟩:=S9At.facts HPK.out hS hmb
 go_enter Tryd.func31,Tryd.ntmps31
 go_wp2_with (fail)
 go_quiet (fail)
 have HPK4:=Lib.hid (s9_draw HPK.out nq)
 clear hgp hpg p5 q5 hx0 hfx0 hc10b hf10b hc0 hc1
 generalize World.drewN _ nq = W4 at HPK4 ⊢
 obtain ⟨-, -, -, -,hx4,hfx4, -, -⟩:=S9At.facts HPK4.out hS hmb
 have HPUT:=Lib.hid (s9_put HPK4.out hS (Go.bits .or .u8 (rd s.data (m : Int) * 2 % 256) 0))
 go_wp2_with (fail)
 go_end0
 rw [HL.out,data9_eq s 0 (by omega) s.data m (by rw [if_neg HHM.out]) HM0.out (rd_rangeS OK.out.by_ _)]
 exact ⟨rfl,⟨_,HPUT.out.obj,HPUT.out.row⟩,HPUT.out.tch⟩
set_option maxHeartbeats 1000000 in
set_option maxRecDepth 100000 in
theorem splain_9_1_app (p : Nat) (v : Value) (s : SS) (S : Nat → Prop) (w0 w : World) (hi : SIn w0 w p S s v) (hpl : w0.heap.size ≤ p) (hS : ¬ S p) (ok : SOk s) (hfld : s.field = 9) (hm8 : s.left % 8 = 0) :
  Calls Tryd.prog 31 #[.pointer (some ⟨p,0,none⟩), .int .i64 1] w (EndS w0 w p S (takeS s 1)):=by
 have HI:=Lib.hid hi
 have OK:=Lib.hid ok
 have HF:=Lib.hid hfld
 have hp:=hi.obj
 have hc0:=cS0 hp
 have hc1:=cS1 hp
 have hc10:=cS10 hp
 have hf10:=fS hp 10
 have l0:=ok.l0
 have l1:=ok.l1
 have hdl:=ok.dl
 have hm : (Int.tmod s.left 8 == 0) = true:=by rw [Int.tmod_eq_emod_of_nonneg (by omega)];simp;omega
 have hm2 : (s.left % 8 == 0) = true:=by simp;omega
 have HL : Hid (takeS s 1 = { s with data:=dataS s 1 }):=Lib.hid (by unfold takeS;rw [if_neg (by omega),if_neg (by omega),if_neg (by omega),if_neg (by omega),if_pos hfld])
 have HHM:=Lib.hid hm8
 rw [hfld] at hc0
 clear hi ok hp hfld hm8
 go_enter Tryd.func31,Tryd.ntmps31
 go_wp2_with (at_builtin;go_loud (refine Kd.R_append (Kd.int .u8) (w0:=w0) w0.heap.size rfl (.tmp 80) (.tmp 81) 23 5 (.int .u8 0) 1 rfl Tryd.underlying23 infoU8s rfl (by decide) (by omega) v s.data 0 [.int .u8 0] S (fun _ => False) rfl rfl ?aP (fun _ hk => hk.elim) HI.out.fresh ?aO ?aB ?aS ?aL ?_;(case aP => exact rfl);(case aO => exact HI.out.row);(case aB => exact HI.out.below);(case aS => exact HI.out.below.size);(case aL => omega);intro v1 w1 ho hb hg hat;obtain ⟨g,c1,e1,hpk⟩:=s9_append HI.out.obj HI.out.row hS ho hg;subst e1;have HPK:=Lib.hid hpk;clear ho hb hg hat hc0 hc1 hc10 hf10 hpk;obtain ⟨hgp,hpg,p5,q5,hx0,hfx0,hc10,hf10⟩:=S9At.facts HPK.out hS (by omega)))
 go_quiet (fail)
 have HPK4:=Lib.hid (s9_draw (s9_mid (V := .slice (some ⟨g,0,none⟩) (s.data.length + 1) c1) HPK.out hS) nq)
 clear hgp hpg p5 q5 hx0 hfx0 hc10 hf10
 generalize World.drewN _ nq = W4 at HPK4 ⊢
 obtain ⟨-, -, -, -,hx4,hfx4, -, -⟩:=S9At.facts HPK4.out hS (by omega)
 have HPUT:=Lib.hid (s9_put HPK4.out hS (Go.bits .or .u8 (rd (s.data ++ [0]) (s.data.length : Int) * 2 % 256) 1))
 go_wp2_with (fail)
 go_end0
 rw [HL.out,data9_eq s 1 (by omega) (s.data ++ [0]) s.data.length (by rw [if_pos HHM.out]) (by simp) (rd_rangeS (fun x hx => by rcases List.mem_append.1 hx with h | h;exact OK.out.by_ x h;rw [List.mem_singleton] at h;omega) _)]
 exact ⟨rfl,⟨_,HPUT.out.obj,HPUT.out.row⟩,HPUT.out.tch⟩
set_option maxHeartbeats 1000000 in
set_option maxRecDepth 100000 in
theorem splain_9_1_in (p : Nat) (v : Value) (s : SS) (S : Nat → Prop) (w0 w : World) (hi : SIn w0 w p S s v) (hpl : w0.heap.size ≤ p) (hS : ¬ S p) (ok : SOk s) (hfld : s.field = 9) (hm8 : ¬ s.left % 8 = 0) :
  Calls Tryd.prog 31 #[.pointer (some ⟨p,0,none⟩), .int .i64 1] w (EndS w0 w p S (takeS s 1)):=by
 have HI:=Lib.hid hi
 have OK:=Lib.hid ok
 have HF:=Lib.hid hfld
 have hp:=hi.obj
 have hc0:=cS0 hp
 have hc1:=cS1 hp
 have l0:=ok.l0
 have l1:=ok.l1
 have hdl:=ok.dl
 have hm : (Int.tmod s.left 8 == 0) = false:=by rw [Int.tmod_eq_emod_of_nonneg (by omega)];simp;omega
 have hm2 : (s.left % 8 == 0) = false:=by simp;omega
 have HL : Hid (takeS s 1 = { s with data:=dataS s 1 }):=Lib.hid (by unfold takeS;rw [if_neg (by omega),if_neg (by omega),if_neg (by omega),if_neg (by omega),if_pos hfld])
 have HHM:=Lib.hid hm8
 obtain ⟨m,hm0⟩ : ∃ m,s.data.length = m + 1:=⟨s.data.length - 1,by have h1:=ok.ne hfld hm8;have:=List.length_pos_iff.2 h1;omega⟩
 obtain ⟨g,c1,e1,hpk⟩:=s9_same hp hi.row hm0
 subst e1
 have HPK:=Lib.hid hpk
 have HM0:=Lib.hid hm0
 have hmb : m < 1000:=by omega
 rw [hfld] at hc0
 clear hi ok hp hfld hm8 hpk hm0
 obtain ⟨hgp,hpg,p5,q5,hx0,hfx0,hc10b,hf10b⟩:=S9At.facts HPK.out hS hmb
 go_enter Tryd.func31,Tryd.ntmps31
 go_wp2_with (fail)
 go_quiet (fail)
 have HPK4:=Lib.hid (s9_draw HPK.out nq)
 clear hgp hpg p5 q5 hx0 hfx0 hc10b hf10b hc0 hc1
 generalize World.drewN _ nq = W4 at HPK4 ⊢
 obtain ⟨-, -, -, -,hx4,hfx4, -, -⟩:=S9At.facts HPK4.out hS hmb
 have HPUT:=Lib.hid (s9_put HPK4.out hS (Go.bits .or .u8 (rd s.data (m : Int) * 2 % 256) 1))
 go_wp2_with (fail)
 go_end0
 rw [HL.out,data9_eq s 1 (by omega) s.data m (by rw [if_neg HHM.out]) HM0.out (rd_rangeS OK.out.by_ _)]
 exact ⟨rfl,⟨_,HPUT.out.obj,HPUT.out.row⟩,HPUT.out.tch⟩
theorem impl_Scan_plain.calls (p : Nat) (v : Value) (s : SS) (b : Int) (hb : b = 0 ∨ b = 1) (S : Nat → Prop) (w0 w : World) (hi : SIn w0 w p S s v) (hpl : w0.heap.size ≤ p) (hS : ¬ S p) (ok : SOk s) :
  Calls Tryd.prog 31 #[.pointer (some ⟨p,0,none⟩), .int .i64 b] w (EndS w0 w p S (takeS s b)):=by
 by_cases h2 : s.field = 2
 ·rcases hb with rfl | rfl;exact splain_2_0 p v s S w0 w hi hpl hS ok h2;exact splain_2_1 p v s S w0 w hi hpl hS ok h2
 by_cases h5 : s.field = 5
 ·rcases hb with rfl | rfl;exact splain_5_0 p v s S w0 w hi hpl hS ok h5;exact splain_5_1 p v s S w0 w hi hpl hS ok h5
 by_cases h3 : s.field = 3
 ·rcases hb with rfl | rfl;exact splain_3_0 p v s S w0 w hi hpl hS ok h3;exact splain_3_1 p v s S w0 w hi hpl hS ok h3
 by_cases h6 : s.field = 6
 ·rcases hb with rfl | rfl;exact splain_6_0 p v s S w0 w hi hpl hS ok h6;exact splain_6_1 p v s S w0 w hi hpl hS ok h6
 by_cases h4 : s.field = 4
 ·rcases hb with rfl | rfl;exact splain_4_0 p v s S w0 w hi hpl hS ok h4;exact splain_4_1 p v s S w0 w hi hpl hS ok h4
 by_cases h8 : s.field = 8
 ·rcases hb with rfl | rfl;exact splain_8_0 p v s S w0 w hi hpl hS ok h8;exact splain_8_1 p v s S w0 w hi hpl hS ok h8
 by_cases h10 : s.field = 10
 ·rcases hb with rfl | rfl;exact splain_10_0 p v s S w0 w hi hpl hS ok h10;exact splain_10_1 p v s S w0 w hi hpl hS ok h10
 by_cases h9 : s.field = 9
 ·by_cases hm : s.left % 8 = 0
  ·rcases hb with rfl | rfl;exact splain_9_0_app p v s S w0 w hi hpl hS ok h9 hm;exact splain_9_1_app p v s S w0 w hi hpl hS ok h9 hm
  ·rcases hb with rfl | rfl;exact splain_9_0_in p v s S w0 w hi hpl hS ok h9 hm;exact splain_9_1_in p v s S w0 w hi hpl hS ok h9 hm
 exact splain_other p v s b S w0 w hi hS ⟨h2,h5,h3,h6,h4,h8,h9,h10⟩
end Go.Proofs.YtdoclpgciadjaaaDoor.P
